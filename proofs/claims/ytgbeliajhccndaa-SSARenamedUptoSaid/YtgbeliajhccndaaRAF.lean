/- Lemmas of this claim (WE, VJ, WF, VK). -/
import Derived.Test.YtgbeliajhccndaaRZ
import Derived.Test.YtgbeliajhccndaaRAA
import Derived.Test.YtgbeliajhccndaaRAD
import Derived.Test.YtgbeliajhccndaaRAE
import Derived.Test.YtgbeliajhccndaaRW
import Derived.Test.YtgbeliajhccndaaRX
import Derived.Test.YtgbeliajhccndaaRows
import Derived.ProofKit
import Derived.OpenShut
import Derived.SizedLaws
section
set_option linter.unusedVariables false
set_option linter.unusedSimpArgs false
namespace Go.Proofs.Ytgbeliajhccndaa
open Go.RowKit Go.Proofs.YtgbeliajhccndaaW.PrintWords Go.Proofs.YtgbeliajhccndaaW.PrintLast Go.Proofs.YtgbeliajhccndaaW.PrintMore PP
theorem small_l2 {fs : List S38} {m : Int} (hfs : fs.length ≤ 1000000000) {i : Nat} {f : S38} (hf : f.f4.length ≤ 1000000000) (ih : ∀ n, ∃ b, Ev (fun k => quernlaw9_small.l0 k n ((i + 1 : Nat) : Int) fs m) b) (hi : i < fs.length) :
    ∀ d q n, q + d = f.f4.length → ∃ b, Ev (fun k => quernlaw9_small.l2 k n (i : Int) (q : Int) fs m f.f0 f.f1 f.f2 f.f3 f.f4) b := by
  intro d
  induction d with
  | zero =>
    intro q n e
    by_cases hn : n > 2000000
    · exact ⟨false, Ev.step (fun k => by rw [quernlaw9_small.l2, if_neg (by omega), if_pos hn]) (Ev.now _)⟩
    · obtain ⟨b, hb⟩ := ih n
      exact ⟨b, Ev.step (fun k => by rw [quernlaw9_small.l2, if_neg (by omega), if_neg hn, wrap_nat i (by omega)]) hb⟩
  | succ d IH =>
    intro q n e
    by_cases hn : n ≤ 2000000
    · obtain ⟨b, hb⟩ := IH (q + 1) _ (by omega)
      exact ⟨b, Ev.step (fun k => by rw [quernlaw9_small.l2, if_pos (by omega), if_pos hn, if_pos (by omega), wrap_nat q (by omega)]) hb⟩
    · exact ⟨false, Ev.step (fun k => by rw [quernlaw9_small.l2, if_pos (by omega), if_neg hn, if_pos (by omega)]) (Ev.now _)⟩
theorem small_l1 {fs : List S38} {m : Int} (hfs : fs.length ≤ 1000000000) {i : Nat} {f : S38} (hf : f.f4.length ≤ 1000000000) (hv : f.f3.length ≤ 1000000000) (ih : ∀ n, ∃ b, Ev (fun k => quernlaw9_small.l0 k n ((i + 1 : Nat) : Int) fs m) b) (hi : i < fs.length) :
    ∀ d q n, q + d = f.f3.length → ∃ b, Ev (fun k => quernlaw9_small.l1 k n (i : Int) (q : Int) fs m f.f0 f.f1 f.f2 f.f3 f.f4) b := by
  have hj : ∀ n, ∃ b, Ev (fun k => quernlaw9_small.j2 k n (i : Int) fs m f.f0 f.f1 f.f2 f.f3 f.f4) b := fun n => by
    obtain ⟨b, hb⟩ := small_l2 hfs hf ih hi f.f4.length 0 n (by omega)
    exact ⟨b, Ev.step (fun k => by rw [quernlaw9_small.j2]; rfl) hb⟩
  intro d
  induction d with
  | zero =>
    intro q n e
    obtain ⟨b, hb⟩ := hj n
    exact ⟨b, Ev.step (fun k => by rw [quernlaw9_small.l1, if_neg (by omega)]) hb⟩
  | succ d IH =>
    intro q n e
    by_cases hn : n ≤ 2000000
    · obtain ⟨b, hb⟩ := IH (q + 1) _ (by omega)
      exact ⟨b, Ev.step (fun k => by rw [quernlaw9_small.l1, if_pos (by omega), if_pos hn, if_pos (by omega), wrap_nat q (by omega)]) hb⟩
    · obtain ⟨b, hb⟩ := hj n
      exact ⟨b, Ev.step (fun k => by rw [quernlaw9_small.l1, if_pos (by omega), if_neg hn]) hb⟩
theorem small_ev {fs : List S38} {m : Int} (hfs : fs.length ≤ 1000000000) (hf : ∀ f ∈ fs, f.f4.length ≤ 1000000000 ∧ f.f3.length ≤ 1000000000) : ∃ k b, quernlaw9_small.f k fs m = some b := by
  have h : ∀ d i n, i + d = fs.length → ∃ b, Ev (fun k => quernlaw9_small.l0 k n (i : Int) fs m) b := by
    intro d
    induction d with
    | zero =>
      intro i n e
      exact ⟨_, Ev.step (fun k => by rw [quernlaw9_small.l0, if_neg (by omega)]) (Ev.now _)⟩
    | succ d IH =>
      intro i n e
      have hi : i < fs.length := by omega
      obtain ⟨h4, h3⟩ := hf (fs.getD i z38) (mem_getD z38 hi)
      obtain ⟨b, hb⟩ := small_l1 (f := fs.getD i z38) (m := m) hfs h4 h3 (fun n => IH (i + 1) n (by omega)) hi (fs.getD i z38).f3.length 0 _ (by omega)
      exact ⟨b, Ev.step (fun k => by rw [quernlaw9_small.l0, if_pos (by omega), if_pos (by omega)]; rfl) hb⟩
  obtain ⟨b, K, hK⟩ := h fs.length 0 0 (by omega)
  exact ⟨K, b, hK K (Nat.le_refl _)⟩
structure SizeH (ps : List S38) : Prop where
  n : ps.length ≤ 1000000000
  lim : ∀ f ∈ ps, LimF f
  blk : ∀ f ∈ ps, f.f4.length ≤ 400000
  name : ∀ f ∈ ps, f.f0.size ≤ 3000000000000
theorem check_some {ps : List S38} {m : Int} (h : SizeH ps) : ssa_Check.f ps m = some (checkE ps m) := by
  unfold ssa_Check.f
  rw [if_pos]
  refine List.all_eq_true.2 (fun f hf => ?_)
  unfold fitF
  simp [h.name f hf, h.blk f hf]
theorem le_check {w W : World} {gL g cap : Nat} {ps : List S38} {m : Int} (h : Le w W gL g cap ps m) (hS : SizeH ps) : Calls Try.prog 12 #[.agg #[.slice (some ⟨g, 0, none⟩) ps.length cap, .int .i64 m]] W fun e w' => e = .returned (.int .i64 (checkE ps m)) ∧ Below W.heap.size W w' := by
  obtain ⟨_, h2, h3⟩ := Kd.R_reads' h.rf
  have hl : (tt ps ++ [m38]).length = ps.length + 1 := by unfold tt; simp
  rw [hl] at h3
  exact ssa_Check.calls (some ⟨g, 0, none⟩) cap ps m _ W (f38_C h3 rfl) (by omega) (check_some hS)
end Go.Proofs.Ytgbeliajhccndaa
end
section
set_option linter.unusedVariables false
set_option linter.unusedSimpArgs false
namespace Go.Proofs.Ytgbeliajhccndaa
open Go.RowKit Go.Proofs.YtgbeliajhccndaaW.PrintWords Go.Proofs.YtgbeliajhccndaaW.PrintLast Go.Proofs.YtgbeliajhccndaaW.PrintMore PP
theorem numbers_all (l : List Int) (n : Nat) (hl : l.length ≤ 1000000000) : ∀ m i : Nat, i + m = l.length → Ev (fun k => quernlaw9_numbers.l0 k l (n : Int) (i : Int)) ((l.drop i).all (inB n))
  | 0, i, e => by
    rw [List.drop_of_length_le (by omega)]
    exact Ev.step (fun k => by rw [quernlaw9_numbers.l0, if_neg (by omega)]; rfl) (Ev.now _)
  | m + 1, i, e => by
    have hil : i < l.length := by omega
    have hr : rd l (i : Int) = l[i] := by show l.getD i 0 = _; rw [List.getD_eq_getElem?_getD, List.getElem?_eq_getElem hil]; rfl
    rw [List.drop_eq_getElem_cons hil, List.all_cons]
    by_cases h0 : l[i] < 0
    · have : inB n l[i] = false := by simp [inB]; omega
      rw [this, Bool.false_and]
      exact Ev.step (fun k => by rw [quernlaw9_numbers.l0, if_pos (by omega), if_pos (by omega), hr, if_pos h0]) (Ev.now _)
    · by_cases h1 : l[i] ≥ (n : Int)
      · have : inB n l[i] = false := by simp [inB]; omega
        rw [this, Bool.false_and]
        exact Ev.step (fun k => by rw [quernlaw9_numbers.l0, if_pos (by omega), if_pos (by omega), hr, if_neg h0, if_pos h1]) (Ev.now _)
      · have : inB n l[i] = true := by simp [inB]; omega
        rw [this, Bool.true_and]
        exact Ev.step (fun k => by rw [quernlaw9_numbers.l0, if_pos (by omega), if_pos (by omega), hr, if_neg h0, if_neg h1, wrap_natV i (by omega)]) (numbers_all l n hl m (i + 1) (by omega))
theorem numbers_any (l : List Int) (n : Nat) (hl : l.length ≤ 1000000000) (A : Option Addr) (c : Nat) (w : World) (hC : (Kd.int .i64).C w A l.length l) (hc : l.length ≤ c) :
    Calls Try.prog 15 #[.slice A l.length c, .int .i64 (n : Int)] w fun e w' => e = .returned (.bool (l.all (inB n))) ∧ Hid (Below w.heap.size w w') := by
  obtain ⟨K, hK⟩ := numbers_all l n hl l.length 0 (by omega)
  refine (quernlaw9_numbers.calls K A c l n _ w hC hc (hK K (Nat.le_refl _))).mono ?_
  rintro e w' ⟨h, q, hq⟩
  exact ⟨h, Lib.hid (by rw [hq]; exact pw_below_drewN (Below.refl _ _) q)⟩
theorem ren_size {ps : List S38} {b : Nat} (h : SizeH ps) : ∀ f ∈ ps.map (renF b), f.f0.size ≤ 3000000000000 ∧ f.f4.length ≤ 400000 := fun f hf => by
  obtain ⟨g, hg, rfl⟩ := List.mem_map.1 hf
  exact ⟨h.name g hg, by rw [ren_len4]; exact h.blk g hg⟩
theorem ren_some {ps : List S38} {m : Int} {b : Nat} (h : SizeH ps) (hN : ∀ f ∈ ps, Num f) : ssa_Check.f (ps.map (renF b)) m = some (checkE ps m) := by
  unfold ssa_Check.f
  rw [if_pos, ren_check hN]
  refine List.all_eq_true.2 (fun f hf => ?_)
  unfold fitF
  simp [(ren_size h f hf).1, (ren_size h f hf).2]
theorem ren_calls {ps : List S38} {m : Int} {b : Nat} (h : SizeH ps) (hN : ∀ f ∈ ps, Num f) {W : World} {base : Nat} {A : Option Addr} {c : Nat} (hR : k38.R 38 W base (fun _ => True) (.slice A ps.length c) (ps.map (renF b))) :
    Calls Try.prog 12 #[.agg #[.slice A ps.length c, .int .i64 m]] W fun e w' => e = .returned (.int .i64 (checkE ps m)) ∧ Below W.heap.size W w' := by
  obtain ⟨_, h2, h3⟩ := Kd.R_reads' hR
  have hl : (ps.map (renF b)).length = ps.length := List.length_map _
  have := ssa_Check.calls A c (ps.map (renF b)) m (checkE ps m) W h3 (by rw [hl]; exact h2) (ren_some h hN)
  rw [hl] at this
  exact this
set_option maxRecDepth 100000 in
set_option maxHeartbeats 8000000 in
theorem SSARenamed_any (ps : List S38) (A : Option Addr) (c : Nat) (m : Int) (by_ : Int) (w : World) (hC : k38.C w A ps.length ps) (hc : ps.length ≤ c) (hS : SizeH ps) :
    Calls Try.prog 5 #[.agg #[.slice A ps.length c, .int .i64 m], .int .i64 by_] w fun e w' => e = .returned (.bool true) ∧ Below w.heap.size w w' := by
  have HC := Lib.hid hC
  have HCC := Lib.hid hc
  have HS := Lib.hid hS
  have HLV := Lib.hid alive_any
  obtain ⟨ks, bs, hks⟩ := small_ev (m := m) hS.n (fun f hf => ⟨(hS.lim f hf).b, (hS.lim f hf).v⟩)
  have HKS := Lib.hid hks
  clear hC hc hS hks
  go_enter Try.func5, Try.ntmps5
  go_upto_region 1 with (fail)
  obtain ⟨wa, hwa⟩ : ∃ wa, wa = w.alloc (.cells #[.slice A ps.length c, .int .i64 m] 24) := ⟨_, rfl⟩
  obtain ⟨gS, hgS⟩ : ∃ gS, gS = w.heap.size := ⟨_, rfl⟩
  have hBa : Below w.heap.size w wa := by rw [hwa]; exact below_alloc (Below.refl _ _) _
  have hSa : wa.heap[gS]? = some (.cells #[.slice A ps.length c, .int .i64 m] 24 (0, 0)) := by rw [hwa, hgS]; exact blk_new w _
  rw [← hgS, ← hwa]
  have HBa := Lib.hid hBa
  have HSa := Lib.hid hSa
  clear hwa hgS hBa hSa
  go_upto_region 2 with (first | (go_at_call 9; with_reducible refine Calls.mono (HLV.out _) ?_; rintro e w1 ⟨rfl, hb1⟩; have HB1 := Lib.hid hb1; clear hb1) | (go_at_call 9; refine stop_intro ?_))
  have HBb := Lib.hid (below_then HBa.out HBa.out.size HB1.out)
  have HS1 := Lib.hid (blkB HB1.out HSa.out)
  have s0 := (S2_blk HS1.out).1
  have s1 := (S2_blk HS1.out).2
  have HSM := Lib.hid (quernlaw9_small.calls ks A c ps m bs w1 (Kd.C_below HC.out HBb.out) HCC.out HKS.out)
  clear HB1 HSa HBa
  go_upto_region 3 with (first | (go_at_call 10; with_reducible refine Calls.mono HSM.out ?_; rintro e w2 ⟨rfl, hb1⟩; have HB2 := Lib.hid hb1; clear hb1) | (go_at_call 10; refine stop_intro ?_))
  have HBc := Lib.hid (below_then HBb.out HBb.out.size HB2.out)
  have HS2 := Lib.hid (blkB HB2.out HS1.out)
  clear s0 s1 HSM HB2 HS1 HBb HKS
  cases bs with
  | false =>
    go_wp2_with (fail)
    go_ret
    exact ⟨rfl, HBc.out⟩
  | true =>
    go_upto_region 5 with (fail)
    obtain ⟨o, ho⟩ : ∃ o, o = decide (by_ < 0 ∨ by_ > 1000) := ⟨_, rfl⟩
    have HO := Lib.hid ho
    clear ho
    go_cut [29] (fun v wx => v = .bool o ∧ wx = w2)
    case first =>
      by_cases h0 : by_ < 0
      · have d0 : decide (by_ < 0) = true := decide_eq_true h0
        have HP : Hid (true = o) := Lib.hid (by rw [HO.out]; exact (decide_eq_true (Or.inl h0)).symm)
        clear h0
        go_wp2
        go_meet
        exact ⟨by rw [HP.out], rfl⟩
      · have d0 : decide (by_ < 0) = false := decide_eq_false h0
        by_cases h1 : by_ > 1000
        · have d1 : decide (by_ > 1000) = true := decide_eq_true h1
          have d2 : decide (1000 < by_) = true := decide_eq_true h1
          have HP : Hid (true = o) := Lib.hid (by rw [HO.out]; exact (decide_eq_true (Or.inr h1)).symm)
          clear h0 h1
          go_wp2
          go_meet
          exact ⟨by rw [HP.out], rfl⟩
        · have d1 : decide (by_ > 1000) = false := decide_eq_false h1
          have d2 : decide (1000 < by_) = false := decide_eq_false h1
          have HP : Hid (false = o) := Lib.hid (by rw [HO.out]; exact (decide_eq_false (by omega)).symm)
          clear h0 h1
          go_wp2
          go_meet
          exact ⟨by rw [HP.out], rfl⟩
    case rest =>
      obtain ⟨rfl, rfl⟩ := hcut
      go_upto_if 29 with (fail)
      go_cut [1] (fun v wx => ∃ b : Nat, v = .int .i64 (b : Int) ∧ Hid (b ≤ 1000) ∧ wx = wc)
      case first =>
        cases o with
        | true =>
          go_wp2
          go_meet
          exact ⟨1, rfl, Lib.hid (by omega), rfl⟩
        | false =>
          have he := HO.out
          have he2 : by_ = ((by_.toNat : Nat) : Int) ∧ by_.toNat ≤ 1000 := by
            have := of_decide_eq_false he.symm
            omega
          have HE := Lib.hid he2
          clear he he2
          go_wp2
          go_meet
          exact ⟨by_.toNat, by rw [← HE.out.1], Lib.hid HE.out.2, rfl⟩
      case rest =>
        obtain ⟨b, rfl, HBY, rfl⟩ := hcut
        go_wp2_with (fail)
        go_loopg [7] ps.length (fun k v7 wr => ∃ (i : Nat), i ≤ ps.length ∧ v7 = .int .i64 i ∧ Hid (i + k = ps.length) ∧ Hid (∀ f ∈ ps.take i, Num f) ∧ Hid (Below w.heap.size w wr) ∧ Hid (wr.heap[gS]? = some (.cells #[.slice A ps.length c, .int .i64 m] 24 (0, 0))))
        case atStart => exact ⟨0, by omega, rfl, Lib.hid (by omega), Lib.hid (by simp), HBc, HS2⟩
        case round =>
          clear HBc HS2
          obtain ⟨i, hi, rfl, HI, HNM, HB, HSB⟩ := hrel
          have s0 := (S2_blk HSB.out).1
          have s1 := (S2_blk HSB.out).2
          by_cases hlt : i < ps.length
          · obtain ⟨f, hf⟩ : ∃ f, f = ps.getD i z38 := ⟨_, rfl⟩
            have hfr : rd_T38 ps (i : Int) = f := by rw [hf]; rfl
            have hfm : f ∈ ps := by rw [hf]; exact mem_getD z38 hlt
            have HTK : Hid (ps.take (i + 1) = ps.take i ++ [f]) := Lib.hid (by rw [List.take_succ_eq_append_getElem hlt, hf, List.getD_eq_getElem?_getD, List.getElem?_eq_getElem hlt]; rfl)
            have HLF := Lib.hid (HS.out.lim f hfm)
            obtain ⟨ad, A1, c1, A3, c3, A4, c4, eA, x0, x1, x2, x3, x4, l1, i1, l3, i3, l4, i4⟩ := at_T38 (Kd.C_below HC.out HB.out) (i : Int) (by omega) (by omega)
            rw [hfr] at x0 x1 x2 x3 x4 l1 i1 l3 i3 l4 i4
            simp only [Int.toNat_natCast] at x0 x1 x2 x3 x4
            have I3 := Lib.hid i3
            have I4 := Lib.hid i4
            obtain ⟨bp, hbp⟩ : ∃ bp, bp = f.f1.all (inB f.f3.length) := ⟨_, rfl⟩
            have HBP := Lib.hid hbp
            have HNP : Hid (∀ W : World, Below wr.heap.size wr W → Calls Try.prog 15 #[.slice A1 f.f1.length c1, .int .i64 (f.f3.length : Int)] W fun e w' => e = .returned (.bool bp) ∧ Hid (Below W.heap.size W w')) := Lib.hid (fun W hW => by rw [hbp]; exact numbers_any f.f1 _ HLF.out.p A1 c1 W (Kd.C_below i1 hW) l1)
            subst eA
            clear l1 i1 l3 i3 l4 i4 hfr hf hfm hbp
            go_upto_region 11 with (fail)
            obtain ⟨wb, hwb⟩ : ∃ wb, wb = wr.alloc (.cells #[.string f.f0, .slice A1 f.f1.length c1, .int .i64 f.f2, .slice A3 f.f3.length c3, .slice A4 f.f4.length c4] 38) := ⟨_, rfl⟩
            obtain ⟨gf, hgf⟩ : ∃ gf, gf = wr.heap.size := ⟨_, rfl⟩
            have hBb : Below wr.heap.size wr wb := by rw [hwb]; exact below_alloc (Below.refl _ _) _
            have hFb : wb.heap[gf]? = some (.cells #[.string f.f0, .slice A1 f.f1.length c1, .int .i64 f.f2, .slice A3 f.f3.length c3, .slice A4 f.f4.length c4] 38 (0, 0)) := by rw [hwb, hgf]; exact blk_new wr _
            rw [← hgf, ← hwb]
            have HBb := Lib.hid hBb
            have HFb := Lib.hid hFb
            obtain ⟨y0, y1, y2, y3, y4⟩ := S5_blk hFb
            clear hwb hgf hBb hFb s0 s1 x0 x1 x2 x3 x4
            go_upto_if 48 with (first | (go_at_call 15; with_reducible refine Calls.mono (HNP.out _ HBb.out) ?_; rintro e w6 ⟨rfl, HB6⟩) | (go_at_call 15; refine stop_intro ?_))
            clear y0 y1 y2 y3 y4
            have HBd := Lib.hid (below_then HBb.out HBb.out.size HB6.out)
            have HFd := Lib.hid (blkB HB6.out HFb.out)
            clear HNP HBb HFb HB6
            cases bp with
            | false =>
              go_wp2_with (fail)
              go_ret
              exact ⟨rfl, below_then HB.out HB.out.size HBd.out⟩
            | true =>
              generalize wr = wi at *
              generalize gk = go at *
              go_wp2_with (fail)
              go_loopg [9] f.f3.length (fun k v9 wv => ∃ j : Nat, j ≤ f.f3.length ∧ v9 = .int .i64 j ∧ Hid (j + k = f.f3.length) ∧ Hid (∀ v ∈ f.f3.take j, v.f3.all (inB f.f3.length) = true) ∧ Hid (Below wi.heap.size wi wv) ∧ Hid (wv.heap[gf]? = some (.cells #[.string f.f0, .slice A1 f.f1.length c1, .int .i64 f.f2, .slice A3 f.f3.length c3, .slice A4 f.f4.length c4] 38 (0, 0))))
              case atStart => exact ⟨0, by omega, rfl, Lib.hid (by omega), Lib.hid (by simp), HBd, HFd⟩
              case round =>
                clear HBd HFd
                obtain ⟨j, hj, rfl, HJ, HJV, HBe, HFe⟩ := hrel
                have y3 := (S5_blk HFe.out).2.2.2.1
                by_cases hjl : j < f.f3.length
                · obtain ⟨x, hx⟩ : ∃ x, x = f.f3.getD j z42 := ⟨_, rfl⟩
                  have hxr : rd_T42 f.f3 (j : Int) = x := by rw [hx]; rfl
                  have hxm : x ∈ f.f3 := by rw [hx]; exact mem_getD z42 hjl
                  have HTJ : Hid (f.f3.take (j + 1) = f.f3.take j ++ [x]) := Lib.hid (by rw [List.take_succ_eq_append_getElem hjl, hx, List.getD_eq_getElem?_getD, List.getElem?_eq_getElem hjl]; rfl)
                  obtain ⟨ad3, A5, c5, eA3, x0, x1, x2, x3, l5, i5⟩ := at_T42 (Kd.C_below I3.out HBe.out) (j : Int) (by omega) (by omega)
                  rw [hxr] at x0 x1 x2 x3 l5 i5
                  simp only [Int.toNat_natCast] at x0 x1 x2 x3
                  obtain ⟨bq, hbq⟩ : ∃ bq, bq = x.f3.all (inB f.f3.length) := ⟨_, rfl⟩
                  have HBQ := Lib.hid hbq
                  have HNQ : Hid (∀ W : World, Below wr.heap.size wr W → Calls Try.prog 15 #[.slice A5 x.f3.length c5, .int .i64 (f.f3.length : Int)] W fun e w' => e = .returned (.bool bq) ∧ Hid (Below W.heap.size W w')) := Lib.hid (fun W hW => by rw [hbq]; exact numbers_any x.f3 _ (HLF.out.a x hxm) A5 c5 W (Kd.C_below i5 hW) l5)
                  have HDR : Hid (Below wr.heap.size wr wr.drew) := Lib.hid (below_drew (Below.refl _ _))
                  subst eA3
                  clear l5 i5 hxr hx hxm hbq x0 x1 x2
                  go_upto_region 16 with (fail)
                  go_cut [66] (fun v wx => v = .bool (!bq) ∧ Hid (Below wr.heap.size wr wx))
                  case first =>
                    go_region_with (first | (go_at_call 15; with_reducible refine Calls.mono (HNQ.out _ HDR.out) ?_; rintro e w6 ⟨rfl, HB6⟩) | (go_at_call 15; refine stop_intro ?_))
                    all_goals
                      go_wp2_with (fail)
                      go_meet
                      exact ⟨rfl, Lib.hid (undrew HB6.out)⟩
                  case rest =>
                    obtain ⟨rfl, HBx⟩ := hcut
                    clear HNQ HDR x3 y3
                    have HBg := Lib.hid (below_then HBe.out HBe.out.size HBx.out)
                    have HFg := Lib.hid (blkB HBx.out HFe.out)
                    clear HBe HFe HBx
                    cases bq with
                    | false =>
                      go_wp2_with (fail)
                      go_ret
                      exact ⟨rfl, below_then HB.out HB.out.size HBg.out⟩
                    | true =>
                      have hvb := HLF.out.v
                      go_wp2_with (fail)
                      go_roundg (gk - 1)
                      case measure => have := HJ.out; omega
                      case rel => exact ⟨j + 1, by omega, by go_num, Lib.hid (by have := HJ.out; omega), Lib.hid (fun v hv => by
                        rw [HTJ.out] at hv
                        rcases List.mem_append.1 hv with h | h
                        · exact HJV.out v h
                        · rw [List.mem_singleton.1 h]; exact HBQ.out.symm), HBg, HFg⟩
                · have hje : j = f.f3.length := by omega
                  subst hje
                  clear hjl hj HJ
                  rw [List.take_length] at HJV
                  have HVV := HJV
                  clear HJV
                  go_wp2_with (fail)
                  go_loopg [10] f.f4.length (fun k v10 wv => ∃ j : Nat, j ≤ f.f4.length ∧ v10 = .int .i64 j ∧ Hid (j + k = f.f4.length) ∧ Hid (∀ x ∈ f.f4.take j, x.f0.all (inB f.f3.length) = true ∧ x.f1.all (inB f.f3.length) = true ∧ x.f2.f1 < (f.f3.length : Int)) ∧ Hid (Below wi.heap.size wi wv) ∧ Hid (wv.heap[gf]? = some (.cells #[.string f.f0, .slice A1 f.f1.length c1, .int .i64 f.f2, .slice A3 f.f3.length c3, .slice A4 f.f4.length c4] 38 (0, 0))))
                  case atStart => exact ⟨0, by omega, rfl, Lib.hid (by omega), Lib.hid (by simp), HBe, HFe⟩
                  case round =>
                    clear HBe HFe
                    obtain ⟨j, hj, rfl, HJ, HJV, HBe, HFe⟩ := hrel
                    have y3 := (S5_blk HFe.out).2.2.2.1
                    have y4 := (S5_blk HFe.out).2.2.2.2
                    by_cases hjl : j < f.f4.length
                    · obtain ⟨x, hx⟩ : ∃ x, x = f.f4.getD j z46 := ⟨_, rfl⟩
                      have hxr : rd_T46 f.f4 (j : Int) = x := by rw [hx]; rfl
                      have hxm : x ∈ f.f4 := by rw [hx]; exact mem_getD z46 hjl
                      have HTJ : Hid (f.f4.take (j + 1) = f.f4.take j ++ [x]) := Lib.hid (by rw [List.take_succ_eq_append_getElem hjl, hx, List.getD_eq_getElem?_getD, List.getElem?_eq_getElem hjl]; rfl)
                      obtain ⟨ad3, B0, d0, B1, d1, B4, d4, B5, d5, eA3, x0, x1, x2, x3, x4, x5, l0, i0, l1, i1, l4, i4, l5, i5⟩ := at_T46 (Kd.C_below I4.out HBe.out) (j : Int) (by omega) (by omega)
                      rw [hxr] at x0 x1 x2 x3 x4 x5 l0 i0 l1 i1 l4 i4 l5 i5
                      simp only [Int.toNat_natCast] at x0 x1 x2 x3 x4 x5
                      obtain ⟨b0, hb0⟩ : ∃ b0, b0 = x.f0.all (inB f.f3.length) := ⟨_, rfl⟩
                      obtain ⟨b1, hb1⟩ : ∃ b1, b1 = x.f1.all (inB f.f3.length) := ⟨_, rfl⟩
                      have HQ0 := Lib.hid hb0
                      have HQ1 := Lib.hid hb1
                      have HLQ := HLF.out.q x hxm
                      have HN0 : Hid (∀ W : World, Below wr.heap.size wr W → Calls Try.prog 15 #[.slice B0 x.f0.length d0, .int .i64 (f.f3.length : Int)] W fun e w' => e = .returned (.bool b0) ∧ Hid (Below W.heap.size W w')) := Lib.hid (fun W hW => by rw [hb0]; exact numbers_any x.f0 _ HLQ.1 B0 d0 W (Kd.C_below i0 hW) l0)
                      have HN1 : Hid (∀ W : World, Below wr.heap.size wr W → Calls Try.prog 15 #[.slice B1 x.f1.length d1, .int .i64 (f.f3.length : Int)] W fun e w' => e = .returned (.bool b1) ∧ Hid (Below W.heap.size W w')) := Lib.hid (fun W hW => by rw [hb1]; exact numbers_any x.f1 _ HLQ.2.1 B1 d1 W (Kd.C_below i1 hW) l1)
                      subst eA3
                      clear l0 i0 l1 i1 l4 i4 l5 i5 hxr hx hxm hb0 hb1 HLQ
                      go_upto_region 22 with (fail)
                      obtain ⟨wb, hwb⟩ : ∃ wb, wb = wr.alloc (.cells #[.slice B0 x.f0.length d0, .slice B1 x.f1.length d1, .int .i64 x.f2.f0, .int .i64 x.f2.f1, .slice B4 x.f2.f2.length d4, .slice B5 x.f3.length d5] 46) := ⟨_, rfl⟩
                      obtain ⟨gb, hgb⟩ : ∃ gb, gb = wr.heap.size := ⟨_, rfl⟩
                      have hBb : Below wr.heap.size wr wb := by rw [hwb]; exact below_alloc (Below.refl _ _) _
                      have hFb : wb.heap[gb]? = some (.cells #[.slice B0 x.f0.length d0, .slice B1 x.f1.length d1, .int .i64 x.f2.f0, .int .i64 x.f2.f1, .slice B4 x.f2.f2.length d4, .slice B5 x.f3.length d5] 46 (0, 0)) := by rw [hwb, hgb]; exact blk_new wr _
                      rw [← hgb, ← hwb]
                      have HBb := Lib.hid hBb
                      have HFb := Lib.hid hFb
                      have z0 := (S6_blk hFb).1
                      have z1 := (S6_blk hFb).2.1
                      have z3 := (S6_blk hFb).2.2.2.1
                      have u3 := cellB hBb y3
                      clear hwb hgb hBb hFb x0 x1 x2 x3 x4 x5 y3 y4
                      by_cases hb0 : b0 = true
                      · subst hb0
                        by_cases hb1 : b1 = true
                        · subst hb1
                          by_cases ht : x.f2.f1 < (f.f3.length : Int)
                          · have t1 : decide (x.f2.f1 ≥ (f.f3.length : Int)) = false := decide_eq_false (by omega)
                            have t2 : decide ((f.f3.length : Int) ≤ x.f2.f1) = false := decide_eq_false (by omega)
                            have HT := Lib.hid ht
                            clear ht
                            have hvb := HLF.out.b
                            go_wp2_with (first | (go_at_call 15; with_reducible refine Calls.mono (HN0.out _ HBb.out) ?_; rintro e w6 ⟨rfl, HB6⟩; have v0 := cellB HB6.out z0; have v1 := cellB HB6.out z1; have v3 := cellB HB6.out z3; have k3 := cellB HB6.out u3) | (go_at_call 15; with_reducible refine Calls.mono (HN1.out _ (below_then HBb.out HBb.out.size HB6.out)) ?_; rintro e w7 ⟨rfl, HB7⟩; have p3 := cellB HB7.out v3; have r3 := cellB HB7.out k3) | (go_at_call 15; refine stop_intro ?_))
                            have HBg := Lib.hid (below_then (below_then HBe.out HBe.out.size HBb.out) (below_then HBe.out HBe.out.size HBb.out).size (below_then HB6.out HB6.out.size HB7.out))
                            have HFg := Lib.hid (blkB (below_then HBb.out HBb.out.size (below_then HB6.out HB6.out.size HB7.out)) HFe.out)
                            go_roundg (gk - 1)
                            case measure => have := HJ.out; omega
                            case rel => exact ⟨j + 1, by omega, by go_num, Lib.hid (by have := HJ.out; omega), Lib.hid (fun v hv => by
                              rw [HTJ.out] at hv
                              rcases List.mem_append.1 hv with h | h
                              · exact HJV.out v h
                              · rw [List.mem_singleton.1 h]; exact ⟨HQ0.out.symm, HQ1.out.symm, HT.out⟩), HBg, HFg⟩
                          · have t1 : decide (x.f2.f1 ≥ (f.f3.length : Int)) = true := decide_eq_true (by omega)
                            have t2 : decide ((f.f3.length : Int) ≤ x.f2.f1) = true := decide_eq_true (by omega)
                            clear ht
                            go_wp2_with (first | (go_at_call 15; with_reducible refine Calls.mono (HN0.out _ HBb.out) ?_; rintro e w6 ⟨rfl, HB6⟩; have v0 := cellB HB6.out z0; have v1 := cellB HB6.out z1; have v3 := cellB HB6.out z3; have k3 := cellB HB6.out u3) | (go_at_call 15; with_reducible refine Calls.mono (HN1.out _ (below_then HBb.out HBb.out.size HB6.out)) ?_; rintro e w7 ⟨rfl, HB7⟩; have p3 := cellB HB7.out v3; have r3 := cellB HB7.out k3) | (go_at_call 15; refine stop_intro ?_))
                            go_ret
                            exact ⟨rfl, below_then HB.out HB.out.size (below_then (below_then HBe.out HBe.out.size HBb.out) (below_then HBe.out HBe.out.size HBb.out).size (below_then HB6.out HB6.out.size HB7.out))⟩
                        · obtain rfl : b1 = false := by simpa using hb1
                          clear hb1
                          go_wp2_with (first | (go_at_call 15; with_reducible refine Calls.mono (HN0.out _ HBb.out) ?_; rintro e w6 ⟨rfl, HB6⟩; have v0 := cellB HB6.out z0; have v1 := cellB HB6.out z1; have v3 := cellB HB6.out z3; have k3 := cellB HB6.out u3) | (go_at_call 15; with_reducible refine Calls.mono (HN1.out _ (below_then HBb.out HBb.out.size HB6.out)) ?_; rintro e w7 ⟨rfl, HB7⟩; have p3 := cellB HB7.out v3; have r3 := cellB HB7.out k3) | (go_at_call 15; refine stop_intro ?_))
                          go_ret
                          exact ⟨rfl, below_then HB.out HB.out.size (below_then (below_then HBe.out HBe.out.size HBb.out) (below_then HBe.out HBe.out.size HBb.out).size (below_then HB6.out HB6.out.size HB7.out))⟩
                      · obtain rfl : b0 = false := by simpa using hb0
                        clear hb0
                        go_wp2_with (first | (go_at_call 15; with_reducible refine Calls.mono (HN0.out _ HBb.out) ?_; rintro e w6 ⟨rfl, HB6⟩; have v0 := cellB HB6.out z0; have v1 := cellB HB6.out z1; have v3 := cellB HB6.out z3; have k3 := cellB HB6.out u3) | (go_at_call 15; with_reducible refine Calls.mono (HN1.out _ (below_then HBb.out HBb.out.size HB6.out)) ?_; rintro e w7 ⟨rfl, HB7⟩; have p3 := cellB HB7.out v3; have r3 := cellB HB7.out k3) | (go_at_call 15; refine stop_intro ?_))
                        go_ret
                        exact ⟨rfl, below_then HB.out HB.out.size (below_then (below_then HBe.out HBe.out.size HBb.out) (below_then HBe.out HBe.out.size HBb.out).size HB6.out)⟩
                    · have hje : j = f.f4.length := by omega
                      subst hje
                      clear hjl hj HJ
                      rw [List.take_length] at HJV
                      have HNF : Hid (Num f) := Lib.hid ⟨HBP.out.symm, HVV.out, HJV.out⟩
                      have HBg := Lib.hid (below_then HB.out HB.out.size HBe.out)
                      have HSg := Lib.hid (blkB HBe.out HSB.out)
                      have hvb := HS.out.n
                      go_wp2_with (fail)
                      go_roundg (go - 1)
                      case measure => have := HI.out; omega
                      case rel => exact ⟨i + 1, by omega, by go_num, Lib.hid (by have := HI.out; omega), Lib.hid (fun v hv => by
                        rw [HTK.out] at hv
                        rcases List.mem_append.1 hv with h | h
                        · exact HNM.out v h
                        · rw [List.mem_singleton.1 h]; exact HNF.out), HBg, HSg⟩
          · have hie : i = ps.length := by omega
            subst hie
            clear hlt hi HI
            rw [List.take_length] at HNM
            have HLT := Lib.hid (lent_any wr ps A c m (Kd.C_below HC.out HB.out) HS.out.n HS.out.lim)
            go_upto_region 25 with (first | (go_at_call 11; with_reducible refine Calls.mono HLT.out ?_; rintro e w3 ⟨gL, g, cap, rfl, HLE⟩; have HCK := Lib.hid (le_check HLE.out HS.out); have l0 := (S2_blk HLE.out.lb).1; have l1 := (S2_blk HLE.out.lb).2) | (go_at_call 12; with_reducible refine Calls.mono HCK.out ?_; rintro e w4 ⟨rfl, hb⟩; have HB4 := Lib.hid hb; clear hb) | (go_at_call 12; refine stop_intro ?_))
            have HBd := Lib.hid (below_then (below_then HB.out HB.out.size HLE.out.below) (below_then HB.out HB.out.size HLE.out.below).size HB4.out)
            have HS4 := Lib.hid (blkB HB4.out (blkB HLE.out.below HSB.out))
            have HRN := Lib.hid (renamed_any w4 ps A c m b (Kd.C_below HC.out HBd.out) HS.out.n HS.out.lim HNM.out HBY.out)
            have q0 := (S2_blk HS4.out).1
            have q1 := (S2_blk HS4.out).2
            obtain ⟨E, hE⟩ : ∃ E, E = checkE ps m := ⟨_, rfl⟩
            rw [← hE]
            have HE := Lib.hid hE
            clear hE s0 s1 l0 l1 HLT HCK HLE HB4 HSB HB
            go_wp2_with (first | (go_at_call 16; with_reducible refine Calls.mono HRN.out ?_; rintro e w5 ⟨A', c', rfl, HR5, HB5⟩; have HCK2 := Lib.hid (ren_calls (m := m) HS.out HNM.out HR5.out)) | (go_at_call 12; with_reducible refine Calls.mono HCK2.out ?_; rintro e w6 ⟨rfl, hb⟩; rw [← HE.out]; have HB6 := Lib.hid hb; clear hb) | (go_at_call 12; refine stop_intro ?_))
            go_ret
            exact ⟨rfl, below_then HBd.out HBd.out.size (below_then HB5.out HB5.out.size HB6.out)⟩
end Go.Proofs.Ytgbeliajhccndaa
end
section
set_option linter.unusedVariables false
set_option linter.unusedSimpArgs false
namespace Go.Proofs.Ytgbeliajhccndaa
open Go.RowKit Go.Proofs.YtgbeliajhccndaaW.PrintWords PP
open Go.Proofs.Ytgbeliajhccndaa.Rows (uptoBulk uptoBulkAll)
structure OpU {α : Type} (P : Program) (t : TypeId) (d : Kd α) (mu : α → Nat) : Prop where
  size_ : P.cellsOf t = d.sz
  open_ : ∀ {H : Type} {enc : TypeId × Value → H} {W : World} {spare : Nat → Bool} {held : Bool} {fuel : Nat} {cs : List Value} {x : DataW H × List MemPlace},
    DataW.trod enc P W 0 spare held fuel t cs = some x → ∃ a, d.K W a cs ∧ mu a ≤ uptoBulk x.1
structure OpUF {α : Type} (P : Program) (fs : List Field) (off : Nat) (d : Kd α) (mu : α → Nat) : Prop where
  open_ : ∀ {H : Type} {enc : TypeId × Value → H} {W : World} {spare : Nat → Bool} {held : Bool} {n : Nat} {cs : List Value} {xs : List (DataW H × List MemPlace)},
    off + d.sz ≤ cs.length → xs.length = fs.length → (∀ (i : Nat) (f : Field), fs[i]? = some f → DataW.trod enc P W 0 spare held n f.type ((cs.drop f.offset).take (P.cellsOf f.type)) = xs[i]?) →
    ∃ a, d.K W a ((cs.drop off).take d.sz) ∧ mu a ≤ uptoBulkAll (xs.map (·.1))
def sumM {α : Type} (mu : α → Nat) : List α → Nat
  | [] => 0
  | a :: r => mu a + sumM mu r
theorem sumM_mem {α : Type} {mu : α → Nat} : ∀ {l : List α} {a : α}, a ∈ l → mu a ≤ sumM mu l
  | [], a, h => by simp at h
  | x :: r, a, h => by
    unfold sumM
    rcases List.mem_cons.1 h with rfl | h
    · omega
    · have := sumM_mem (mu := mu) h
      omega
theorem sumM_len {α : Type} {mu : α → Nat} {k : Nat} (hk : ∀ a, k ≤ mu a) : ∀ l : List α, l.length * k ≤ sumM mu l
  | [] => by simp
  | x :: r => by
    unfold sumM
    have := sumM_len hk r
    have := hk x
    rw [List.length_cons, Nat.add_mul, Nat.one_mul]
    omega
theorem sumM_bulk {α : Type} {mu : α → Nat} {H : Type} : ∀ {l : List α} {es : List (DataW H)}, l.length = es.length → (∀ (i : Nat) (a : α) (e : DataW H), l[i]? = some a → es[i]? = some e → mu a ≤ uptoBulk e) → sumM mu l ≤ uptoBulkAll es
  | [], [], _, _ => Nat.le_refl _
  | a :: l, e :: es, hl, h => by
    unfold sumM uptoBulkAll
    have h0 := h 0 a e rfl rfl
    have h1 := sumM_bulk (mu := mu) (l := l) (es := es) (by simpa using hl) (fun i b f hb hf => h (i + 1) b f (by simpa using hb) (by simpa using hf))
    omega
  | [], _ :: _, hl, _ => by simp at hl
  | _ :: _, [], hl, _ => by simp at hl
theorem list_ofU {α : Type} {p : Nat → α → Prop} : ∀ n : Nat, (∀ i, i < n → ∃ a, p i a) → ∃ l : List α, l.length = n ∧ ∀ i a, l[i]? = some a → p i a
  | 0, _ => ⟨[], rfl, fun i a h => by simp at h⟩
  | n + 1, h => by
    obtain ⟨l, hl, hp⟩ := list_ofU n (fun i hi => h i (by omega))
    obtain ⟨a, ha⟩ := h n (by omega)
    refine ⟨l ++ [a], by simp [hl], fun i b hb => ?_⟩
    rcases Nat.lt_or_ge i l.length with hi | hi
    · rw [List.getElem?_append_left hi] at hb
      exact hp i b hb
    · have hi2 : i = n := by
        have := (List.getElem?_eq_some_iff.1 hb).1
        simp at this
        omega
      subst hi2
      rw [← hl] at hb
      simp at hb
      exact hb ▸ ha
section
variable {α β : Type} {P : Program} {t e : TypeId} {d : Kd α} {d2 : Kd β} {mu : α → Nat} {mu2 : β → Nat}
theorem OpU.int {k : IntKind} (ht : P.underlying t = some (.int k)) (hs : P.cellsOf t = 1) : OpU P t (Kd.int k) (fun _ => 1) :=
  ⟨hs, fun h => by obtain ⟨n, rfl, rfl, hw⟩ := DataW.trod_int ht h; exact ⟨n, rfl, Nat.le_refl _⟩⟩
theorem OpU.string (ht : P.underlying t = some .string) (hs : P.cellsOf t = 1) : OpU P t Kd.string (fun s => s.size + 1) :=
  ⟨hs, fun {H enc W spare held fuel cs x} h => by
    obtain ⟨s, rfl, rfl, _⟩ := DataW.trod_string ht h
    refine ⟨s, rfl, ?_⟩
    show s.size + 1 ≤ s.data.toList.length + 1
    rw [Array.length_toList]
    exact Nat.le_refl _⟩
theorem add_addU (a : Addr) (i j : Nat) : (a.add i).add j = a.add (i + j) := by
  unfold Addr.add
  by_cases hi : i = 0 <;> by_cases hj : j = 0 <;> simp [hi, hj, Nat.add_assoc]
theorem OpU.slice (ht : P.underlying t = some (.slice e)) (hs : P.cellsOf t = 1) (ho : OpU P e d mu) : OpU P t (Kd.slice e d) (fun l => sumM mu l + 1) := by
  refine ⟨hs, fun {H enc W spare held fuel cs x} h => ?_⟩
  rcases DataW.trod_slice ht h with ⟨rfl, rfl⟩ | ⟨a, len, cap, elems, rest, n, rfl, rfl, rfl, _, hl, hm, hlen, hel, _, _⟩
  · exact ⟨[], ⟨none, 0, rfl, Nat.le_refl _, Kd.C_nil d W⟩, Nat.le_refl _⟩
  · have one : ∀ i, i < len → ∃ b : α, (∃ c, c.length = d.sz ∧ d.K W b c ∧ ∀ j u, c[j]? = some u → W.cell? (a.add (i * d.sz + j)) = some u) ∧ ∀ y, elems[i]? = some y → mu b ≤ uptoBulk y.1 := by
      intro i hi
      have h1 := hel i hi
      rw [List.getElem?_eq_getElem (by omega)] at h1
      obtain ⟨c, hc, htr⟩ := Option.bind_eq_some_iff.1 h1
      obtain ⟨b, hK, hG⟩ := ho.open_ htr
      obtain ⟨_, hcl, hcc⟩ := World.cells?_some hc
      rw [ho.size_] at hcl hcc
      refine ⟨b, ⟨c, hcl, hK, fun j u hu => ?_⟩, fun y hy => ?_⟩
      · have hj : j < d.sz := by rw [← hcl]; exact (List.getElem?_eq_some_iff.1 hu).1
        have := hcc j hj
        rw [add_addU, hu] at this
        exact this
      · rw [List.getElem?_eq_getElem (by omega)] at hy
        injection hy with hy
        rw [← hy]
        exact hG
    obtain ⟨l, hll, hp⟩ := list_ofU len one
    refine ⟨l, ⟨some a, cap, by rw [hll], by omega, hll ▸ rfl, ?_, fun _ => ⟨a, rfl, fun j p hj => (hp j p hj).1⟩⟩, ?_⟩
    · rw [hll]
      simp only [maxLen] at hm
      omega
    · have hle := sumM_bulk (mu := mu) (l := l) (es := elems.map (·.1)) (by rw [List.length_map]; omega) (fun i b f hb hf => by
        rw [List.getElem?_map] at hf
        obtain ⟨y, hy, rfl⟩ := Option.map_eq_some_iff.1 hf
        exact (hp i b hb).2 y hy)
      show sumM mu l + 1 ≤ uptoBulkAll (elems.map (·.1)) + uptoBulkAll (rest.map (·.1)) + 1
      omega
theorem OpU.iso (f : β → α) (g : α → β) (hfg : ∀ a, f (g a) = a) (ho : OpU P t d mu) : OpU P t (Kd.iso d f) (fun b => mu (f b)) :=
  ⟨ho.size_, fun h => by
    obtain ⟨a, hK, hG⟩ := ho.open_ h
    exact ⟨g a, by show d.K _ (f (g a)) _; rw [hfg]; exact hK, by rw [hfg]; exact hG⟩⟩
theorem OpUF.last {f : Field} {off : Nat} (hoff : f.offset = off) (ho : OpU P f.type d mu) : OpUF P [f] off d mu := by
  constructor
  intro H enc W spare held n cs xs hl hx hall
  match xs, hx with
  | [x], _ =>
    have h0 := hall 0 f rfl
    rw [hoff, ho.size_] at h0
    obtain ⟨a, hK, hm⟩ := ho.open_ h0
    exact ⟨a, hK, by show mu a ≤ uptoBulk x.1 + 0; omega⟩
theorem OpUF.cons {f : Field} {fs : List Field} {off : Nat} (hoff : f.offset = off) (ho : OpU P f.type d mu) (hr : OpUF P fs (off + d.sz) d2 mu2) :
    OpUF P (f :: fs) off (Kd.pair d d2) (fun x => mu x.1 + mu2 x.2) := by
  constructor
  intro H enc W spare held n cs xs hl hx hall
  have hl' : off + (d.sz + d2.sz) ≤ cs.length := hl
  match xs, hx with
  | x :: xs, hx =>
    have h0 := hall 0 f rfl
    rw [hoff, ho.size_] at h0
    obtain ⟨a, hK, hG⟩ := ho.open_ h0
    obtain ⟨b, hK2, hG2⟩ := hr.open_ (cs := cs) (xs := xs) (by omega) (by simpa using hx) (fun i f hi => hall (i + 1) f hi)
    refine ⟨(a, b), ⟨_, _, ?_, hK, hK2⟩, ?_⟩
    · show (cs.drop off).take (d.sz + d2.sz) = _
      rw [List.take_add, List.drop_drop]
    · show mu a + mu2 b ≤ uptoBulk x.1 + uptoBulkAll (xs.map (·.1))
      omega
theorem OpU.struct {fs : Array Field} {l : List Field} (ht : P.underlying t = some (.struct fs)) (hl : fs.toList = l) (hs : P.cellsOf t = d.sz) (ho : OpUF P l 0 d mu) : OpU P t d (fun x => mu x + 1) := by
  refine ⟨hs, fun {H enc W spare held fuel cs x} h => ?_⟩
  obtain ⟨xs, n, rfl, rfl, hcl, hxl, hall⟩ := DataW.trod_struct ht h
  subst hl
  obtain ⟨a, hK, hG⟩ := ho.open_ (cs := cs) (xs := xs) (by rw [hcl, hs]; omega) (by simpa using hxl) (fun i f hi => hall i f (by simpa using hi))
  refine ⟨a, ?_, ?_⟩
  · rw [List.drop_zero, List.take_of_length_le (by rw [hcl, hs]; exact Nat.le_refl _)] at hK
    exact hK
  · show mu a + 1 ≤ uptoBulkAll (xs.map (·.1)) + 1
    omega
end
abbrev muL (l : List Int) : Nat := sumM (fun _ : Int => 1) l + 1
theorem muL_len (l : List Int) : l.length ≤ muL l := by
  have := sumM_len (mu := fun _ : Int => 1) (k := 1) (fun _ => Nat.le_refl _) l
  unfold muL
  omega
theorem oI : OpU Try.prog 3 (Kd.int .i64) (fun _ => 1) := OpU.int Try.underlying3 (by kernel_rfl)
theorem oL : OpU Try.prog 34 (Kd.slice 3 (Kd.int .i64)) muL := OpU.slice Try.underlying34 (by kernel_rfl) oI
def mu42 (x : S42) : Nat := 1 + (1 + (1 + muL x.f3)) + 1
theorem o42 : OpU Try.prog 42 k42 mu42 := OpU.iso (fun x : S42 => (x.f0, x.f1, x.f2, x.f3)) (fun x => ⟨x.1, x.2.1, x.2.2.1, x.2.2.2⟩) (fun _ => rfl) (OpU.struct Try.underlying42 rfl (by kernel_rfl) (OpUF.cons rfl oI (OpUF.cons rfl oI (OpUF.cons rfl oI (OpUF.last rfl oL)))))
def mu44 (x : S44) : Nat := 1 + (1 + muL x.f2) + 1
theorem o44 : OpU Try.prog 44 k44 mu44 := OpU.iso (fun x : S44 => (x.f0, x.f1, x.f2)) (fun x => ⟨x.1, x.2.1, x.2.2⟩) (fun _ => rfl) (OpU.struct Try.underlying44 rfl (by kernel_rfl) (OpUF.cons rfl oI (OpUF.cons rfl oI (OpUF.last rfl oL))))
def mu46 (x : S46) : Nat := muL x.f0 + (muL x.f1 + (mu44 x.f2 + muL x.f3)) + 1
theorem o46 : OpU Try.prog 46 k46 mu46 := OpU.iso (fun x : S46 => (x.f0, x.f1, x.f2, x.f3)) (fun x => ⟨x.1, x.2.1, x.2.2.1, x.2.2.2⟩) (fun _ => rfl) (OpU.struct Try.underlying46 rfl (by kernel_rfl) (OpUF.cons rfl oL (OpUF.cons rfl oL (OpUF.cons rfl o44 (OpUF.last rfl oL)))))
def mu38 (x : S38) : Nat := (x.f0.size + 1) + (muL x.f1 + (1 + ((sumM mu42 x.f3 + 1) + (sumM mu46 x.f4 + 1)))) + 1
theorem oS : OpU Try.prog 9 Kd.string (fun s => s.size + 1) := OpU.string Try.underlying9 (by kernel_rfl)
set_option maxRecDepth 100000 in
theorem o38 : OpU Try.prog 38 k38 mu38 := OpU.iso (fun x : S38 => (x.f0, x.f1, x.f2, x.f3, x.f4)) (fun x => ⟨x.1, x.2.1, x.2.2.1, x.2.2.2.1, x.2.2.2.2⟩) (fun _ => rfl) (OpU.struct Try.underlying38 rfl (by kernel_rfl) (OpUF.cons rfl oS (OpUF.cons rfl oL (OpUF.cons rfl oI (OpUF.cons rfl (OpU.slice Try.underlying35 (by kernel_rfl) o42) (OpUF.last rfl (OpU.slice Try.underlying36 (by kernel_rfl) o46)))))))
abbrev k24 : Kd (List S38 × Int) := Kd.pair (Kd.slice 38 k38) (Kd.int .i64)
def mu24 (x : List S38 × Int) : Nat := (sumM mu38 x.1 + 1) + 1 + 1
set_option maxRecDepth 100000 in
theorem o24 : OpU Try.prog 24 k24 mu24 := by
  have h : OpUF Try.prog _ 0 k24 (fun x : List S38 × Int => (fun l => sumM mu38 l + 1) x.1 + (fun _ : Int => 1) x.2) := OpUF.cons (mu := fun l => sumM mu38 l + 1) (mu2 := fun _ : Int => 1) (f := { name := "Funcs", type := 22, offset := 0, embedded := false, tag := "", pkgPath := "", byteOffset := 0 }) rfl (OpU.slice Try.underlying22 (by kernel_rfl) o38) (OpUF.last (f := { name := "Main", type := 3, offset := 1, embedded := false, tag := "", pkgPath := "", byteOffset := 24 }) rfl oI)
  exact OpU.struct Try.underlying24 rfl (by kernel_rfl) h
theorem size_of {x : List S38 × Int} (h : mu24 x ≤ 1048576) : SizeH x.1 := by
  unfold mu24 at h
  have hn := sumM_len (mu := mu38) (k := 1) (fun a => by unfold mu38; omega) x.1
  have hf : ∀ f ∈ x.1, mu38 f ≤ 1048576 := fun f hf => by have := sumM_mem (mu := mu38) hf; omega
  have hb : ∀ f ∈ x.1, f.f4.length * 8 ≤ 1048576 := fun f hm => by
    have h1 := hf f hm
    have := sumM_len (mu := mu46) (k := 8) (fun a => by unfold mu46 mu44 muL; omega) f.f4
    unfold mu38 at h1
    omega
  refine ⟨by omega, fun f hm => ?_, fun f hm => by have := hb f hm; omega, fun f hm => ?_⟩
  · have h1 := hf f hm
    unfold mu38 at h1
    have h3 := sumM_len (mu := mu42) (k := 1) (fun a => by unfold mu42; omega) f.f3
    have h4 := hb f hm
    have hp := muL_len f.f1
    refine ⟨by omega, by omega, by omega, fun v hv => ?_, fun b hbm => ?_⟩
    · have h5 := sumM_mem (mu := mu42) hv
      have h6 := muL_len v.f3
      have h7 : mu42 v = 1 + (1 + (1 + muL v.f3)) + 1 := rfl
      omega
    · have h5 := sumM_mem (mu := mu46) hbm
      have h6 := muL_len b.f0
      have h7 := muL_len b.f1
      have h8 := muL_len b.f2.f2
      have h9 := muL_len b.f3
      have h0 : mu46 b = muL b.f0 + (muL b.f1 + ((1 + (1 + muL b.f2.f2) + 1) + muL b.f3)) + 1 := rfl
      refine ⟨?_, ?_, ?_, ?_⟩ <;> omega
  · have h1 := hf f hm
    unfold mu38 at h1
    omega
end Go.Proofs.Ytgbeliajhccndaa
end
section
end
