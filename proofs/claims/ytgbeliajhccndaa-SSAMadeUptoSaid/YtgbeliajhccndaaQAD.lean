/- Lemmas of this claim (WE, WF). -/
import Derived.Test.YtgbeliajhccndaaQX
import Derived.Test.YtgbeliajhccndaaQY
import Derived.Test.YtgbeliajhccndaaQAB
import Derived.Test.YtgbeliajhccndaaQAC
import Derived.Test.YtgbeliajhccndaaRows
import Derived.ProofKit
import Derived.OpenShut
import Derived.SizedLaws
section
set_option linter.unusedVariables false
set_option linter.unusedSimpArgs false
namespace Go.Proofs.Ytgbeliajhccndaa
open Go.RowKit Go.Proofs.YtgbeliajhccndaaW.PrintWords Go.Proofs.YtgbeliajhccndaaW.PrintLast Go.Proofs.YtgbeliajhccndaaW.PrintMore PP
theorem small_l2 {fs : List S38} {m : Int} (hfs : fs.length ≤ 1000000000) {i : Nat} {f : S38} (hf : f.f4.length ≤ 1000000000) (ih : ∀ n, ∃ b, Ev (fun k => quernlaw9_small.l0 k n ((i + 1 : Nat) : Int) fs m) b) (hi : i < fs.length) :
    ∀ d q n, q + d = f.f4.length → ∃ b, Ev (fun k => quernlaw9_small.l2 k n (i : Int) (q : Int) fs m f.f0 f.f1 f.f2 f.f3 f.f4) b := by
  intro d
  induction d with
  | zero =>
    intro q n e
    by_cases hn : n > 2000000
    · exact ⟨false, Ev.step (fun k => by rw [quernlaw9_small.l2, if_neg (by omega), if_pos hn]) (Ev.now _)⟩
    · obtain ⟨b, hb⟩ := ih n
      exact ⟨b, Ev.step (fun k => by rw [quernlaw9_small.l2, if_neg (by omega), if_neg hn, wrap_nat i (by omega)]) hb⟩
  | succ d IH =>
    intro q n e
    by_cases hn : n ≤ 2000000
    · obtain ⟨b, hb⟩ := IH (q + 1) _ (by omega)
      exact ⟨b, Ev.step (fun k => by rw [quernlaw9_small.l2, if_pos (by omega), if_pos hn, if_pos (by omega), wrap_nat q (by omega)]) hb⟩
    · exact ⟨false, Ev.step (fun k => by rw [quernlaw9_small.l2, if_pos (by omega), if_neg hn, if_pos (by omega)]) (Ev.now _)⟩
theorem small_l1 {fs : List S38} {m : Int} (hfs : fs.length ≤ 1000000000) {i : Nat} {f : S38} (hf : f.f4.length ≤ 1000000000) (hv : f.f3.length ≤ 1000000000) (ih : ∀ n, ∃ b, Ev (fun k => quernlaw9_small.l0 k n ((i + 1 : Nat) : Int) fs m) b) (hi : i < fs.length) :
    ∀ d q n, q + d = f.f3.length → ∃ b, Ev (fun k => quernlaw9_small.l1 k n (i : Int) (q : Int) fs m f.f0 f.f1 f.f2 f.f3 f.f4) b := by
  have hj : ∀ n, ∃ b, Ev (fun k => quernlaw9_small.j2 k n (i : Int) fs m f.f0 f.f1 f.f2 f.f3 f.f4) b := fun n => by
    obtain ⟨b, hb⟩ := small_l2 hfs hf ih hi f.f4.length 0 n (by omega)
    exact ⟨b, Ev.step (fun k => by rw [quernlaw9_small.j2]; rfl) hb⟩
  intro d
  induction d with
  | zero =>
    intro q n e
    obtain ⟨b, hb⟩ := hj n
    exact ⟨b, Ev.step (fun k => by rw [quernlaw9_small.l1, if_neg (by omega)]) hb⟩
  | succ d IH =>
    intro q n e
    by_cases hn : n ≤ 2000000
    · obtain ⟨b, hb⟩ := IH (q + 1) _ (by omega)
      exact ⟨b, Ev.step (fun k => by rw [quernlaw9_small.l1, if_pos (by omega), if_pos hn, if_pos (by omega), wrap_nat q (by omega)]) hb⟩
    · obtain ⟨b, hb⟩ := hj n
      exact ⟨b, Ev.step (fun k => by rw [quernlaw9_small.l1, if_pos (by omega), if_neg hn]) hb⟩
theorem small_ev {fs : List S38} {m : Int} (hfs : fs.length ≤ 1000000000) (hf : ∀ f ∈ fs, f.f4.length ≤ 1000000000 ∧ f.f3.length ≤ 1000000000) : ∃ k b, quernlaw9_small.f k fs m = some b := by
  have h : ∀ d i n, i + d = fs.length → ∃ b, Ev (fun k => quernlaw9_small.l0 k n (i : Int) fs m) b := by
    intro d
    induction d with
    | zero =>
      intro i n e
      exact ⟨_, Ev.step (fun k => by rw [quernlaw9_small.l0, if_neg (by omega)]) (Ev.now _)⟩
    | succ d IH =>
      intro i n e
      have hi : i < fs.length := by omega
      obtain ⟨h4, h3⟩ := hf (fs.getD i z38) (mem_getD z38 hi)
      obtain ⟨b, hb⟩ := small_l1 (f := fs.getD i z38) (m := m) hfs h4 h3 (fun n => IH (i + 1) n (by omega)) hi (fs.getD i z38).f3.length 0 _ (by omega)
      exact ⟨b, Ev.step (fun k => by rw [quernlaw9_small.l0, if_pos (by omega), if_pos (by omega)]; rfl) hb⟩
  obtain ⟨b, K, hK⟩ := h fs.length 0 0 (by omega)
  exact ⟨K, b, hK K (Nat.le_refl _)⟩
structure SizeH (ps : List S38) : Prop where
  n : ps.length ≤ 1000000000
  lim : ∀ f ∈ ps, LimF f
  blk : ∀ f ∈ ps, f.f4.length ≤ 400000
  name : ∀ f ∈ ps, f.f0.size ≤ 3000000000000
theorem check_some {ps : List S38} {m : Int} (h : SizeH ps) : ssa_Check.f ps m = some (checkE ps m) := by
  unfold ssa_Check.f
  rw [if_pos]
  refine List.all_eq_true.2 (fun f hf => ?_)
  unfold fitF
  simp [h.name f hf, h.blk f hf]
theorem le_check {w W : World} {gL g cap : Nat} {ps : List S38} {m : Int} (h : Le w W gL g cap ps m) (hS : SizeH ps) : Calls Try.prog 12 #[.agg #[.slice (some ⟨g, 0, none⟩) ps.length cap, .int .i64 m]] W fun e w' => e = .returned (.int .i64 (checkE ps m)) ∧ Below W.heap.size W w' := by
  obtain ⟨_, h2, h3⟩ := Kd.R_reads' h.rf
  have hl : (tt ps ++ [m38]).length = ps.length + 1 := by unfold tt; simp
  rw [hl] at h3
  exact ssa_Check.calls (some ⟨g, 0, none⟩) cap ps m _ W (f38_C h3 rfl) (by omega) (check_some hS)
set_option maxRecDepth 100000 in
set_option maxHeartbeats 8000000 in
theorem SSAMade_any (ps : List S38) (A : Option Addr) (c : Nat) (m : Int) (w : World) (hC : k38.C w A ps.length ps) (hc : ps.length ≤ c) (hS : SizeH ps) :
    Calls Try.prog 6 #[.agg #[.slice A ps.length c, .int .i64 m]] w fun e w' => e = .returned (.bool true) ∧ Below w.heap.size w w' := by
  have HC := Lib.hid hC
  have HCC := Lib.hid hc
  have HS := Lib.hid hS
  have HLV := Lib.hid alive_any
  obtain ⟨ks, bs, hks⟩ := small_ev (m := m) hS.n (fun f hf => ⟨(hS.lim f hf).b, (hS.lim f hf).v⟩)
  have HKS := Lib.hid hks
  clear hC hc hS hks
  go_enter Try.func6, Try.ntmps6
  go_upto_region 1 with (fail)
  obtain ⟨wa, hwa⟩ : ∃ wa, wa = w.alloc (.cells #[.slice A ps.length c, .int .i64 m] 24) := ⟨_, rfl⟩
  obtain ⟨gS, hgS⟩ : ∃ gS, gS = w.heap.size := ⟨_, rfl⟩
  have hBa : Below w.heap.size w wa := by rw [hwa]; exact below_alloc (Below.refl _ _) _
  have hSa : wa.heap[gS]? = some (.cells #[.slice A ps.length c, .int .i64 m] 24 (0, 0)) := by rw [hwa, hgS]; exact blk_new w _
  rw [← hgS, ← hwa]
  have HBa := Lib.hid hBa
  have HSa := Lib.hid hSa
  clear hwa hgS hBa hSa
  go_upto_region 2 with (first | (go_at_call 9; with_reducible refine Calls.mono (HLV.out _) ?_; rintro e w1 ⟨rfl, hb1⟩; have HB1 := Lib.hid hb1; clear hb1) | (go_at_call 9; refine stop_intro ?_))
  have HBb := Lib.hid (below_then HBa.out HBa.out.size HB1.out)
  have HS1 := Lib.hid (blkB HB1.out HSa.out)
  have s0 := (S2_blk HS1.out).1
  have s1 := (S2_blk HS1.out).2
  have HSM := Lib.hid (quernlaw9_small.calls ks A c ps m bs w1 (Kd.C_below HC.out HBb.out) HCC.out HKS.out)
  clear HB1 HSa HBa
  go_upto_region 3 with (first | (go_at_call 10; with_reducible refine Calls.mono HSM.out ?_; rintro e w2 ⟨rfl, hb1⟩; have HB2 := Lib.hid hb1; clear hb1) | (go_at_call 10; refine stop_intro ?_))
  have HBc := Lib.hid (below_then HBb.out HBb.out.size HB2.out)
  have HS2 := Lib.hid (blkB HB2.out HS1.out)
  clear s0 s1 HSM HB2 HS1 HBb HKS
  cases bs with
  | false =>
    go_wp2_with (fail)
    go_ret
    exact ⟨rfl, HBc.out⟩
  | true =>
    have s0 := (S2_blk HS2.out).1
    have s1 := (S2_blk HS2.out).2
    have HLT := Lib.hid (lent_any w2 ps A c m (Kd.C_below HC.out HBc.out) HS.out.n HS.out.lim)
    go_upto_region 5 with (fail)
    go_upto_region 6 with (first | (go_at_call 11; with_reducible refine Calls.mono HLT.out ?_; rintro e w3 ⟨gL, g, cap, rfl, HLE⟩; have HCK := Lib.hid (le_check HLE.out HS.out); have l0 := (S2_blk HLE.out.lb).1; have l1 := (S2_blk HLE.out.lb).2) | (go_at_call 12; with_reducible refine Calls.mono HCK.out ?_; rintro e w4 ⟨rfl, hb⟩; have HB4 := Lib.hid hb; clear hb) | (go_at_call 12; refine stop_intro ?_))
    have HBd := Lib.hid (below_then (below_then HBc.out HBc.out.size HLE.out.below) (below_then HBc.out HBc.out.size HLE.out.below).size HB4.out)
    have HS4 := Lib.hid (blkB HB4.out (blkB HLE.out.below HS2.out))
    obtain ⟨E, hE⟩ : ∃ E, E = checkE ps m := ⟨_, rfl⟩
    rw [← hE]
    have HE := Lib.hid hE
    clear hE s0 s1 l0 l1 HLT HCK HLE HB4 HS2 HBc
    go_wp2_with (fail)
    go_loopg [6] ps.length (fun k v6 wr => ∃ (i : Nat), i ≤ ps.length ∧ v6 = .int .i64 i ∧ Hid (i + k = ps.length) ∧ Hid (Below w.heap.size w wr) ∧ Hid (wr.heap[gS]? = some (.cells #[.slice A ps.length c, .int .i64 m] 24 (0, 0))))
    case atStart => exact ⟨0, by omega, rfl, Lib.hid (by omega), HBd, HS4⟩
    case round =>
      clear HBd HS4
      obtain ⟨i, hi, rfl, HI, HB, HSB⟩ := hrel
      have s0 := (S2_blk HSB.out).1
      by_cases he : E = 0
      · subst he
        by_cases hlt : i < ps.length
        · obtain ⟨f, hf⟩ : ∃ f, f = ps.getD i z38 := ⟨_, rfl⟩
          have hfr : rd_T38 ps (i : Int) = f := by rw [hf]; rfl
          have hfm : f ∈ ps := by rw [hf]; exact mem_getD z38 hlt
          obtain ⟨ad, A1, c1, A3, c3, A4, c4, eA, x0, x1, x2, x3, x4, l1, i1, l3, i3, l4, i4⟩ := at_T38 (Kd.C_below HC.out HB.out) (i : Int) (by omega) (by omega)
          rw [hfr] at x0 x1 x2 x3 x4 l1 i1 l3 i3 l4 i4
          simp only [Int.toNat_natCast] at x0 x1 x2 x3 x4
          have I1 := Lib.hid i1
          have I3 := Lib.hid i3
          have I4 := Lib.hid i4
          have J1 := Lib.hid l1
          have J3 := Lib.hid l3
          have J4 := Lib.hid l4
          obtain ⟨K, hK⟩ := made_of HE.out.symm hlt hf (HS.out.lim f hfm) (HS.out.blk f hfm)
          have HMH := Lib.hid hK
          subst eA
          clear l1 i1 l3 i3 l4 i4 hfr hf hfm hK
          go_upto_region 10 with (fail)
          obtain ⟨wb, hwb⟩ : ∃ wb, wb = wr.alloc (.cells #[.string f.f0, .slice A1 f.f1.length c1, .int .i64 f.f2, .slice A3 f.f3.length c3, .slice A4 f.f4.length c4] 38) := ⟨_, rfl⟩
          obtain ⟨gf, hgf⟩ : ∃ gf, gf = wr.heap.size := ⟨_, rfl⟩
          have hBb : Below wr.heap.size wr wb := by rw [hwb]; exact below_alloc (Below.refl _ _) _
          have hFb : wb.heap[gf]? = some (.cells #[.string f.f0, .slice A1 f.f1.length c1, .int .i64 f.f2, .slice A3 f.f3.length c3, .slice A4 f.f4.length c4] 38 (0, 0)) := by rw [hwb, hgf]; exact blk_new wr _
          rw [← hgf, ← hwb]
          have HB5 := Lib.hid (below_then HB.out HB.out.size hBb)
          have HS5 := Lib.hid (blkB hBb HSB.out)
          obtain ⟨y0, y1, y2, y3, y4⟩ := S5_blk hFb
          have HMD := Lib.hid (made_any K f A1 c1 A3 c3 A4 c4 wb (Kd.C_below I1.out hBb) J1.out (Kd.C_below I3.out hBb) J3.out (Kd.C_below I4.out hBb) J4.out HMH.out)
          have hbd : ps.length ≤ 1000000000 := HS.out.n
          clear hwb hgf hBb hFb s0 x0 x1 x2 x3 x4 HB HSB
          by_cases h60 : f.f4.length ≤ 60
          · have d60 : decide ((f.f4.length : Int) ≤ 60) = true := decide_eq_true (by omega)
            clear h60
            by_cases h300 : f.f3.length ≤ 300
            · have d300 : decide ((f.f3.length : Int) ≤ 300) = true := decide_eq_true (by omega)
              clear h300
              go_wp2_with (first | (go_at_call 17; with_reducible refine Calls.mono HMD.out ?_; rintro e w6 ⟨rfl, hb⟩; have HB6 := Lib.hid hb.out; clear hb) | (go_at_call 17; refine stop_intro ?_))
              go_roundg (gk - 1)
              case measure => have := HI.out; omega
              case rel => exact ⟨i + 1, by omega, by go_num, Lib.hid (by have := HI.out; omega), Lib.hid (below_then HB5.out HB5.out.size HB6.out), Lib.hid (blkB HB6.out HS5.out)⟩
            · have d300 : decide ((f.f3.length : Int) ≤ 300) = false := decide_eq_false (by omega)
              clear h300
              go_wp2_with (fail)
              go_roundg (gk - 1)
              case measure => have := HI.out; omega
              case rel => exact ⟨i + 1, by omega, by go_num, Lib.hid (by have := HI.out; omega), HB5, HS5⟩
          · have d60 : decide ((f.f4.length : Int) ≤ 60) = false := decide_eq_false (by omega)
            clear h60
            go_wp2_with (fail)
            go_roundg (gk - 1)
            case measure => have := HI.out; omega
            case rel => exact ⟨i + 1, by omega, by go_num, Lib.hid (by have := HI.out; omega), HB5, HS5⟩
        · have hie : i = ps.length := by omega
          subst hie
          clear hlt hi HI
          go_wp2_with (fail)
          go_ret
          exact ⟨rfl, HB.out⟩
      · have hd1 : (E == 0) = false := by simpa using he
        have hd2 : decide (E = 0) = false := decide_eq_false he
        clear he
        go_wp2_with (fail)
        go_ret
        exact ⟨rfl, HB.out⟩
#print axioms SSAMade_any
end Go.Proofs.Ytgbeliajhccndaa
end
section
set_option linter.unusedVariables false
set_option linter.unusedSimpArgs false
namespace Go.Proofs.Ytgbeliajhccndaa
open Go.RowKit Go.Proofs.YtgbeliajhccndaaW.PrintWords PP
open Go.Proofs.Ytgbeliajhccndaa.Rows (uptoBulk uptoBulkAll)
structure OpU {α : Type} (P : Program) (t : TypeId) (d : Kd α) (mu : α → Nat) : Prop where
  size_ : P.cellsOf t = d.sz
  open_ : ∀ {H : Type} {enc : TypeId × Value → H} {W : World} {spare : Nat → Bool} {held : Bool} {fuel : Nat} {cs : List Value} {x : DataW H × List MemPlace},
    DataW.trod enc P W 0 spare held fuel t cs = some x → ∃ a, d.K W a cs ∧ mu a ≤ uptoBulk x.1
structure OpUF {α : Type} (P : Program) (fs : List Field) (off : Nat) (d : Kd α) (mu : α → Nat) : Prop where
  open_ : ∀ {H : Type} {enc : TypeId × Value → H} {W : World} {spare : Nat → Bool} {held : Bool} {n : Nat} {cs : List Value} {xs : List (DataW H × List MemPlace)},
    off + d.sz ≤ cs.length → xs.length = fs.length → (∀ (i : Nat) (f : Field), fs[i]? = some f → DataW.trod enc P W 0 spare held n f.type ((cs.drop f.offset).take (P.cellsOf f.type)) = xs[i]?) →
    ∃ a, d.K W a ((cs.drop off).take d.sz) ∧ mu a ≤ uptoBulkAll (xs.map (·.1))
def sumM {α : Type} (mu : α → Nat) : List α → Nat
  | [] => 0
  | a :: r => mu a + sumM mu r
theorem sumM_mem {α : Type} {mu : α → Nat} : ∀ {l : List α} {a : α}, a ∈ l → mu a ≤ sumM mu l
  | [], a, h => by simp at h
  | x :: r, a, h => by
    unfold sumM
    rcases List.mem_cons.1 h with rfl | h
    · omega
    · have := sumM_mem (mu := mu) h
      omega
theorem sumM_len {α : Type} {mu : α → Nat} {k : Nat} (hk : ∀ a, k ≤ mu a) : ∀ l : List α, l.length * k ≤ sumM mu l
  | [] => by simp
  | x :: r => by
    unfold sumM
    have := sumM_len hk r
    have := hk x
    rw [List.length_cons, Nat.add_mul, Nat.one_mul]
    omega
theorem sumM_bulk {α : Type} {mu : α → Nat} {H : Type} : ∀ {l : List α} {es : List (DataW H)}, l.length = es.length → (∀ (i : Nat) (a : α) (e : DataW H), l[i]? = some a → es[i]? = some e → mu a ≤ uptoBulk e) → sumM mu l ≤ uptoBulkAll es
  | [], [], _, _ => Nat.le_refl _
  | a :: l, e :: es, hl, h => by
    unfold sumM uptoBulkAll
    have h0 := h 0 a e rfl rfl
    have h1 := sumM_bulk (mu := mu) (l := l) (es := es) (by simpa using hl) (fun i b f hb hf => h (i + 1) b f (by simpa using hb) (by simpa using hf))
    omega
  | [], _ :: _, hl, _ => by simp at hl
  | _ :: _, [], hl, _ => by simp at hl
theorem list_ofU {α : Type} {p : Nat → α → Prop} : ∀ n : Nat, (∀ i, i < n → ∃ a, p i a) → ∃ l : List α, l.length = n ∧ ∀ i a, l[i]? = some a → p i a
  | 0, _ => ⟨[], rfl, fun i a h => by simp at h⟩
  | n + 1, h => by
    obtain ⟨l, hl, hp⟩ := list_ofU n (fun i hi => h i (by omega))
    obtain ⟨a, ha⟩ := h n (by omega)
    refine ⟨l ++ [a], by simp [hl], fun i b hb => ?_⟩
    rcases Nat.lt_or_ge i l.length with hi | hi
    · rw [List.getElem?_append_left hi] at hb
      exact hp i b hb
    · have hi2 : i = n := by
        have := (List.getElem?_eq_some_iff.1 hb).1
        simp at this
        omega
      subst hi2
      rw [← hl] at hb
      simp at hb
      exact hb ▸ ha
section
variable {α β : Type} {P : Program} {t e : TypeId} {d : Kd α} {d2 : Kd β} {mu : α → Nat} {mu2 : β → Nat}
theorem OpU.int {k : IntKind} (ht : P.underlying t = some (.int k)) (hs : P.cellsOf t = 1) : OpU P t (Kd.int k) (fun _ => 1) :=
  ⟨hs, fun h => by obtain ⟨n, rfl, rfl, hw⟩ := DataW.trod_int ht h; exact ⟨n, rfl, Nat.le_refl _⟩⟩
theorem OpU.string (ht : P.underlying t = some .string) (hs : P.cellsOf t = 1) : OpU P t Kd.string (fun s => s.size + 1) :=
  ⟨hs, fun {H enc W spare held fuel cs x} h => by
    obtain ⟨s, rfl, rfl, _⟩ := DataW.trod_string ht h
    refine ⟨s, rfl, ?_⟩
    show s.size + 1 ≤ s.data.toList.length + 1
    rw [Array.length_toList]
    exact Nat.le_refl _⟩
theorem add_addU (a : Addr) (i j : Nat) : (a.add i).add j = a.add (i + j) := by
  unfold Addr.add
  by_cases hi : i = 0 <;> by_cases hj : j = 0 <;> simp [hi, hj, Nat.add_assoc]
theorem OpU.slice (ht : P.underlying t = some (.slice e)) (hs : P.cellsOf t = 1) (ho : OpU P e d mu) : OpU P t (Kd.slice e d) (fun l => sumM mu l + 1) := by
  refine ⟨hs, fun {H enc W spare held fuel cs x} h => ?_⟩
  rcases DataW.trod_slice ht h with ⟨rfl, rfl⟩ | ⟨a, len, cap, elems, rest, n, rfl, rfl, rfl, _, hl, hm, hlen, hel, _, _⟩
  · exact ⟨[], ⟨none, 0, rfl, Nat.le_refl _, Kd.C_nil d W⟩, Nat.le_refl _⟩
  · have one : ∀ i, i < len → ∃ b : α, (∃ c, c.length = d.sz ∧ d.K W b c ∧ ∀ j u, c[j]? = some u → W.cell? (a.add (i * d.sz + j)) = some u) ∧ ∀ y, elems[i]? = some y → mu b ≤ uptoBulk y.1 := by
      intro i hi
      have h1 := hel i hi
      rw [List.getElem?_eq_getElem (by omega)] at h1
      obtain ⟨c, hc, htr⟩ := Option.bind_eq_some_iff.1 h1
      obtain ⟨b, hK, hG⟩ := ho.open_ htr
      obtain ⟨_, hcl, hcc⟩ := World.cells?_some hc
      rw [ho.size_] at hcl hcc
      refine ⟨b, ⟨c, hcl, hK, fun j u hu => ?_⟩, fun y hy => ?_⟩
      · have hj : j < d.sz := by rw [← hcl]; exact (List.getElem?_eq_some_iff.1 hu).1
        have := hcc j hj
        rw [add_addU, hu] at this
        exact this
      · rw [List.getElem?_eq_getElem (by omega)] at hy
        injection hy with hy
        rw [← hy]
        exact hG
    obtain ⟨l, hll, hp⟩ := list_ofU len one
    refine ⟨l, ⟨some a, cap, by rw [hll], by omega, hll ▸ rfl, ?_, fun _ => ⟨a, rfl, fun j p hj => (hp j p hj).1⟩⟩, ?_⟩
    · rw [hll]
      simp only [maxLen] at hm
      omega
    · have hle := sumM_bulk (mu := mu) (l := l) (es := elems.map (·.1)) (by rw [List.length_map]; omega) (fun i b f hb hf => by
        rw [List.getElem?_map] at hf
        obtain ⟨y, hy, rfl⟩ := Option.map_eq_some_iff.1 hf
        exact (hp i b hb).2 y hy)
      show sumM mu l + 1 ≤ uptoBulkAll (elems.map (·.1)) + uptoBulkAll (rest.map (·.1)) + 1
      omega
theorem OpU.iso (f : β → α) (g : α → β) (hfg : ∀ a, f (g a) = a) (ho : OpU P t d mu) : OpU P t (Kd.iso d f) (fun b => mu (f b)) :=
  ⟨ho.size_, fun h => by
    obtain ⟨a, hK, hG⟩ := ho.open_ h
    exact ⟨g a, by show d.K _ (f (g a)) _; rw [hfg]; exact hK, by rw [hfg]; exact hG⟩⟩
theorem OpUF.last {f : Field} {off : Nat} (hoff : f.offset = off) (ho : OpU P f.type d mu) : OpUF P [f] off d mu := by
  constructor
  intro H enc W spare held n cs xs hl hx hall
  match xs, hx with
  | [x], _ =>
    have h0 := hall 0 f rfl
    rw [hoff, ho.size_] at h0
    obtain ⟨a, hK, hm⟩ := ho.open_ h0
    exact ⟨a, hK, by show mu a ≤ uptoBulk x.1 + 0; omega⟩
theorem OpUF.cons {f : Field} {fs : List Field} {off : Nat} (hoff : f.offset = off) (ho : OpU P f.type d mu) (hr : OpUF P fs (off + d.sz) d2 mu2) :
    OpUF P (f :: fs) off (Kd.pair d d2) (fun x => mu x.1 + mu2 x.2) := by
  constructor
  intro H enc W spare held n cs xs hl hx hall
  have hl' : off + (d.sz + d2.sz) ≤ cs.length := hl
  match xs, hx with
  | x :: xs, hx =>
    have h0 := hall 0 f rfl
    rw [hoff, ho.size_] at h0
    obtain ⟨a, hK, hG⟩ := ho.open_ h0
    obtain ⟨b, hK2, hG2⟩ := hr.open_ (cs := cs) (xs := xs) (by omega) (by simpa using hx) (fun i f hi => hall (i + 1) f hi)
    refine ⟨(a, b), ⟨_, _, ?_, hK, hK2⟩, ?_⟩
    · show (cs.drop off).take (d.sz + d2.sz) = _
      rw [List.take_add, List.drop_drop]
    · show mu a + mu2 b ≤ uptoBulk x.1 + uptoBulkAll (xs.map (·.1))
      omega
theorem OpU.struct {fs : Array Field} {l : List Field} (ht : P.underlying t = some (.struct fs)) (hl : fs.toList = l) (hs : P.cellsOf t = d.sz) (ho : OpUF P l 0 d mu) : OpU P t d (fun x => mu x + 1) := by
  refine ⟨hs, fun {H enc W spare held fuel cs x} h => ?_⟩
  obtain ⟨xs, n, rfl, rfl, hcl, hxl, hall⟩ := DataW.trod_struct ht h
  subst hl
  obtain ⟨a, hK, hG⟩ := ho.open_ (cs := cs) (xs := xs) (by rw [hcl, hs]; omega) (by simpa using hxl) (fun i f hi => hall i f (by simpa using hi))
  refine ⟨a, ?_, ?_⟩
  · rw [List.drop_zero, List.take_of_length_le (by rw [hcl, hs]; exact Nat.le_refl _)] at hK
    exact hK
  · show mu a + 1 ≤ uptoBulkAll (xs.map (·.1)) + 1
    omega
end
abbrev muL (l : List Int) : Nat := sumM (fun _ : Int => 1) l + 1
theorem muL_len (l : List Int) : l.length ≤ muL l := by
  have := sumM_len (mu := fun _ : Int => 1) (k := 1) (fun _ => Nat.le_refl _) l
  unfold muL
  omega
theorem oI : OpU Try.prog 3 (Kd.int .i64) (fun _ => 1) := OpU.int Try.underlying3 (by kernel_rfl)
theorem oL : OpU Try.prog 34 (Kd.slice 3 (Kd.int .i64)) muL := OpU.slice Try.underlying34 (by kernel_rfl) oI
def mu42 (x : S42) : Nat := 1 + (1 + (1 + muL x.f3)) + 1
theorem o42 : OpU Try.prog 42 k42 mu42 := OpU.iso (fun x : S42 => (x.f0, x.f1, x.f2, x.f3)) (fun x => ⟨x.1, x.2.1, x.2.2.1, x.2.2.2⟩) (fun _ => rfl) (OpU.struct Try.underlying42 rfl (by kernel_rfl) (OpUF.cons rfl oI (OpUF.cons rfl oI (OpUF.cons rfl oI (OpUF.last rfl oL)))))
def mu44 (x : S44) : Nat := 1 + (1 + muL x.f2) + 1
theorem o44 : OpU Try.prog 44 k44 mu44 := OpU.iso (fun x : S44 => (x.f0, x.f1, x.f2)) (fun x => ⟨x.1, x.2.1, x.2.2⟩) (fun _ => rfl) (OpU.struct Try.underlying44 rfl (by kernel_rfl) (OpUF.cons rfl oI (OpUF.cons rfl oI (OpUF.last rfl oL))))
def mu46 (x : S46) : Nat := muL x.f0 + (muL x.f1 + (mu44 x.f2 + muL x.f3)) + 1
theorem o46 : OpU Try.prog 46 k46 mu46 := OpU.iso (fun x : S46 => (x.f0, x.f1, x.f2, x.f3)) (fun x => ⟨x.1, x.2.1, x.2.2.1, x.2.2.2⟩) (fun _ => rfl) (OpU.struct Try.underlying46 rfl (by kernel_rfl) (OpUF.cons rfl oL (OpUF.cons rfl oL (OpUF.cons rfl o44 (OpUF.last rfl oL)))))
def mu38 (x : S38) : Nat := (x.f0.size + 1) + (muL x.f1 + (1 + ((sumM mu42 x.f3 + 1) + (sumM mu46 x.f4 + 1)))) + 1
theorem oS : OpU Try.prog 9 Kd.string (fun s => s.size + 1) := OpU.string Try.underlying9 (by kernel_rfl)
set_option maxRecDepth 100000 in
theorem o38 : OpU Try.prog 38 k38 mu38 := OpU.iso (fun x : S38 => (x.f0, x.f1, x.f2, x.f3, x.f4)) (fun x => ⟨x.1, x.2.1, x.2.2.1, x.2.2.2.1, x.2.2.2.2⟩) (fun _ => rfl) (OpU.struct Try.underlying38 rfl (by kernel_rfl) (OpUF.cons rfl oS (OpUF.cons rfl oL (OpUF.cons rfl oI (OpUF.cons rfl (OpU.slice Try.underlying35 (by kernel_rfl) o42) (OpUF.last rfl (OpU.slice Try.underlying36 (by kernel_rfl) o46)))))))
abbrev k24 : Kd (List S38 × Int) := Kd.pair (Kd.slice 38 k38) (Kd.int .i64)
def mu24 (x : List S38 × Int) : Nat := (sumM mu38 x.1 + 1) + 1 + 1
set_option maxRecDepth 100000 in
theorem o24 : OpU Try.prog 24 k24 mu24 := by
  have h : OpUF Try.prog _ 0 k24 (fun x : List S38 × Int => (fun l => sumM mu38 l + 1) x.1 + (fun _ : Int => 1) x.2) := OpUF.cons (mu := fun l => sumM mu38 l + 1) (mu2 := fun _ : Int => 1) (f := { name := "Funcs", type := 22, offset := 0, embedded := false, tag := "", pkgPath := "", byteOffset := 0 }) rfl (OpU.slice Try.underlying22 (by kernel_rfl) o38) (OpUF.last (f := { name := "Main", type := 3, offset := 1, embedded := false, tag := "", pkgPath := "", byteOffset := 24 }) rfl oI)
  exact OpU.struct Try.underlying24 rfl (by kernel_rfl) h
theorem size_of {x : List S38 × Int} (h : mu24 x ≤ 1048576) : SizeH x.1 := by
  unfold mu24 at h
  have hn := sumM_len (mu := mu38) (k := 1) (fun a => by unfold mu38; omega) x.1
  have hf : ∀ f ∈ x.1, mu38 f ≤ 1048576 := fun f hf => by have := sumM_mem (mu := mu38) hf; omega
  have hb : ∀ f ∈ x.1, f.f4.length * 8 ≤ 1048576 := fun f hm => by
    have h1 := hf f hm
    have := sumM_len (mu := mu46) (k := 8) (fun a => by unfold mu46 mu44 muL; omega) f.f4
    unfold mu38 at h1
    omega
  refine ⟨by omega, fun f hm => ?_, fun f hm => by have := hb f hm; omega, fun f hm => ?_⟩
  · have h1 := hf f hm
    unfold mu38 at h1
    have h3 := sumM_len (mu := mu42) (k := 1) (fun a => by unfold mu42; omega) f.f3
    have h4 := hb f hm
    have hp := muL_len f.f1
    refine ⟨by omega, by omega, by omega, fun v hv => ?_, fun b hbm => ?_⟩
    · have h5 := sumM_mem (mu := mu42) hv
      have h6 := muL_len v.f3
      have h7 : mu42 v = 1 + (1 + (1 + muL v.f3)) + 1 := rfl
      omega
    · have h5 := sumM_mem (mu := mu46) hbm
      have h6 := muL_len b.f0
      have h7 := muL_len b.f1
      have h8 := muL_len b.f2.f2
      have h9 := muL_len b.f3
      have h0 : mu46 b = muL b.f0 + (muL b.f1 + ((1 + (1 + muL b.f2.f2) + 1) + muL b.f3)) + 1 := rfl
      refine ⟨?_, ?_, ?_, ?_⟩ <;> omega
  · have h1 := hf f hm
    unfold mu38 at h1
    omega
end Go.Proofs.Ytgbeliajhccndaa
end
