/- keep.lately, plain (chapter 13). keep.lately, walked; keep.whole of a late keep (chapter 13). -/
import Derived.Test.YtameoapnhmoleaaKE
set_option linter.unusedVariables false
set_option linter.unusedSimpArgs false
namespace Go.Proofs.Ytameoapnhmoleaa
open Go.RowKit Go.Proofs.YtameoapnhmoleaaW.PrintWords Go.Proofs.YtameoapnhmoleaaW.PrintLast Go.Proofs.YtameoapnhmoleaaW.PrintMore
open PP

theorem below_fr {B : Nat} {w wr w1 : World} {S : Nat → Prop} (h : Below B w wr) (hB : B ≤ wr.heap.size) (hF : Fr wr w1 S) (hS : ∀ k, S k → B ≤ k) : Below B w w1 :=
  ⟨hF.1.trans h.os, hF.2.1.trans h.tape, hF.2.2.1.trans h.output, Nat.le_trans h.size hF.size, fun k hk => (hF.2.2.2.2 k (by omega) (fun hs => by have := hS k hs; omega)).trans (h.block k hk)⟩
structure LA (w0 wr : World) (ok : Nat → Prop) (K T : Nat) (hs ws : List Hd) (vm vw : Value) (j : Nat) : Prop where
  st : LKr wr ok w0.heap.size K hs ws vm vw
  t : wr.heap[T]? = some (.cells #[.bool false, .slice none 0 0, .slice none 0 0, .slice none 0 0] 48 (0, 0))
  len : hs.length = ws.length
  ent : ∀ i, i < hs.length → ∃ ys, ys.length ≤ 1000 ∧ k36.R 36 wr w0.heap.size ok (encH (hs.getD i zH)) ys ∧ (i < j → ys = List.replicate ys.length (mkM (i : Nat)))
  bel : Below w0.heap.size w0 wr
section
variable {w0 wr w' w5 : World} {ok : Nat → Prop} {K T : Nat} {hs ws : List Hd} {vm vw : Value} {j : Nat}
theorem LA.fill {n : Nat} (h : LA w0 wr ok K T hs ws vm vw j) (d1 : ∀ i j, i < hs.length → j < hs.length → i ≠ j → NeRow (encH (hs.getD i zH)) (encH (hs.getD j zH))) (hj : j < hs.length) (hn : n ≤ 1000)
    (hR : k36.R 36 w' w0.heap.size ok (encH (hs.getD j zH)) (List.replicate n (mkM (j : Nat)))) (hB : Below w0.heap.size w0 w') (hF : Fr wr w' (fun k => some k = (encH (hs.getD j zH)).ownBlock)) : LA w0 w' ok K T hs ws vm vw (j + 1) := by
  obtain ⟨ys, _, hy, _⟩ := h.ent j hj
  have hblk : ∀ k, k < wr.heap.size → (encH (hs.getD j zH)).ownBlock ≠ some k → w'.heap[k]? = wr.heap[k]? := fun k hk hne => hF.2.2.2.2 k hk (fun e => hne e.symm)
  refine ⟨⟨(hblk K h.st.lt (row_ne hy h.st.blk (by decide))).trans h.st.blk, h.st.bK, h.st.okK, ?_, ?_, h.st.ne⟩, (hblk T (blk_lt h.t) (row_ne hy h.t (by decide))).trans h.t, h.len, fun i hi => ?_, hB⟩
  · exact R_flat flatH h.st.rm (fun k hk => hblk k (IsWV.rowlt h.st.rm k hk) (row_ne_row h.st.rm hy (by decide) k hk)) h.st.rm.1
  · exact R_flat flatH h.st.rw_ (fun k hk => hblk k (IsWV.rowlt h.st.rw_ k hk) (row_ne_row h.st.rw_ hy (by decide) k hk)) h.st.rw_.1
  · by_cases e : i = j
    · subst e
      exact ⟨_, by rw [List.length_replicate]; exact hn, hR, fun _ => by rw [List.length_replicate]⟩
    · obtain ⟨zs, z1, z2, z3⟩ := h.ent i hi
      refine ⟨zs, z1, R_flat flat36 z2 (fun k hk => hblk k (IsWV.rowlt z2 k hk) (d1 i j hi hj e k hk)) z2.1, fun hlt => z3 (by omega)⟩
theorem LA.put {gw cw : Nat} (h : LA w0 wr ok K T hs ws (vm) (.slice (some ⟨gw, 0, none⟩) ws.length cw) j) (hg : wr.grownBy w5 none) (i : Nat) (y : Hd) :
    LA w0 (w5.setCell ⟨gw, i, none⟩ (encH y)) ok K T hs (ws.set i y) vm (.slice (some ⟨gw, 0, none⟩) ws.length cw) j := by
  have ho : (Value.slice (some ⟨gw, 0, none⟩) ws.length cw).ownBlock = some gw := by simp [Value.ownBlock]
  obtain ⟨hgb, curw, hcw⟩ := row_block h.st.rw_ ho
  have hblk : ∀ k, k < wr.heap.size → gw ≠ k → (w5.setCell ⟨gw, i, none⟩ (encH y)).heap[k]? = wr.heap[k]? := fun k hk hne => (Below.heap_setCell w5 ⟨gw, i, none⟩ (encH y) k (Ne.symm hne)).trans (hg.block k hk (by simp))
  have h5 : kH.R 22 w5 w0.heap.size ok (.slice (some ⟨gw, 0, none⟩) ws.length cw) ws := R_flat flatH h.st.rw_ (fun k hk => hg.block k (IsWV.rowlt h.st.rw_ k hk) (by simp)) h.st.rw_.1
  have hne : ∀ {t : TypeId} {cs : Array Value} {g : Nat}, wr.heap[g]? = some (.cells cs t (0, 0)) → t ≠ 22 → gw ≠ g := fun hc hne e => hne (blk_diff hc (e ▸ hcw))
  have hneR : ∀ {v : Value} {ys : List Mv} {ok2 : Nat → Prop}, k36.R 36 wr w0.heap.size ok2 v ys → ∀ k, v.ownBlock = some k → gw ≠ k := fun hy k hk => by
    obtain ⟨_, cur, hc⟩ := row_block hy hk
    exact hne hc (by decide)
  refine ⟨⟨(hblk K h.st.lt (hne h.st.blk (by decide))).trans h.st.blk, h.st.bK, h.st.okK, ?_, ?_, h.st.ne⟩, (hblk T (blk_lt h.t) (hne h.t (by decide))).trans h.t, by rw [List.length_set]; exact h.len, fun q hq => ?_, ?_⟩
  · exact R_flat flatH h.st.rm (fun k hk => hblk k (IsWV.rowlt h.st.rm k hk) (fun e => h.st.ne k hk (by rw [ho, e]))) h.st.rm.1
  · exact Kd.R_putn (enc := encH) (h1 := encH_one) h5 (i : Int) y
  · obtain ⟨zs, z1, z2, z3⟩ := h.ent q hq
    exact ⟨zs, z1, R_flat flat36 z2 (fun k hk => hblk k (IsWV.rowlt z2 k hk) (hneR z2 k hk)) z2.1, z3⟩
  · exact (h.bel.grown hg h.bel.size (fun k hk => by cases hk)).setCell hgb _
theorem LA.put' {gw cw : Nat} (h : LA w0 wr ok K T hs ws (vm) (.slice (some ⟨gw, 0, none⟩) ws.length cw) j) (hg : wr.grownBy w5 none) (i : Nat) (y : Hd) :
    LA w0 (w5.setCell ⟨gw, i, none⟩ (encH y)) ok K T hs (ws.set i y) vm (.slice (some ⟨gw, 0, none⟩) (ws.set i y).length cw) j := by
  rw [List.length_set]
  exact h.put hg i y
end
/-- Blocks that the new keep may own, j lists held. -/
def okT (S T : Nat) (hs : List Hd) (j : Nat) (k : Nat) : Prop := (∃ i, i < j ∧ i < hs.length ∧ (encH (hs.getD i zH)).ownBlock = some k) ∨ k = T ∨ S ≤ k
structure LS (base K T S : Nat) (hs : List Hd) (vm : Value) : Prop where
  ap : ∀ i, i < hs.length → ∀ k, (encH (hs.getD i zH)).ownBlock = some k → k < S ∧ k ≠ K ∧ k ≠ T ∧ vm.ownBlock ≠ some k ∧ base ≤ k
  d1 : ∀ i j, i < hs.length → j < hs.length → i ≠ j → NeRow (encH (hs.getD i zH)) (encH (hs.getD j zH))
  kS : K < S
  kT : K ≠ T
  tS : T < S
  bT : base ≤ T
  vS : ∀ k, vm.ownBlock = some k → k < S ∧ k ≠ T
structure LB (w0 wr : World) (ok : Nat → Prop) (base K T S : Nat) (hs : List Hd) (vm vw : Value) (j : Nat) (hsT : List Hd) (msT : List Int) (vmT vkT : Value) : Prop where
  blk : wr.heap[K]? = some (.cells #[.bool true, vm, vw, .slice none 0 0] 48 (0, 0))
  rm : kH.R 22 wr base ok vm hs
  rest : ∀ i, j ≤ i → i < hs.length → (hs.getD i zH).n ≤ 1000 ∧ k36.R 36 wr base ok (encH (hs.getD i zH)) (List.replicate (hs.getD i zH).n (mkM (i : Nat)))
  nk : NKr wr (okT S T hs j) base T hsT msT vmT vkT
  fam : Fam wr (okT S T hs j) hsT msT
  num : hsT.length ≤ 41 * j
  bnd : ∀ p, p < hsT.length → (hsT.getD p zH).n ≤ 1000000
  size : S ≤ wr.heap.size
  bel : Below base w0 wr
section
variable {w0 wr w' : World} {ok : Nat → Prop} {base K T S : Nat} {hs ws hsT hsT' : List Hd} {vm vw vmT vkT vmT' vkT' : Value} {msT msT' : List Int} {j : Nat}
theorem okT_le {i j : Nat} (h : i ≤ j) (k : Nat) (hk : okT S T hs i k) : okT S T hs j k := hk.imp (fun ⟨q, a, b⟩ => ⟨q, by omega, b⟩) id
theorem LS.of (h : LA w0 wr ok K T hs ws vm vw j) (hbT : w0.heap.size ≤ T) (d1 : ∀ i j, i < hs.length → j < hs.length → i ≠ j → NeRow (encH (hs.getD i zH)) (encH (hs.getD j zH))) : LS w0.heap.size K T wr.heap.size hs vm := by
  refine ⟨fun i hi k hk => ?_, d1, h.st.lt, fun e => ?_, blk_lt h.t, hbT, fun k hk => ⟨IsWV.rowlt h.st.rm k hk, fun e => row_ne h.st.rm h.t (by decide) (e ▸ hk)⟩⟩
  · obtain ⟨ys, _, hy, _⟩ := h.ent i hi
    exact ⟨IsWV.rowlt hy k hk, fun e => row_ne hy h.st.blk (by decide) (e ▸ hk), fun e => row_ne hy h.t (by decide) (e ▸ hk), fun e => row_ne_row hy h.st.rm (by decide) k hk e, (row_block hy hk).1⟩
  · have h1 := h.st.blk
    rw [e, h.t] at h1
    simp at h1
theorem LB.of (h : LA w0 wr ok K T hs ws vm vw hs.length) (hbT : w0.heap.size ≤ T) : LB w0 wr ok w0.heap.size K T wr.heap.size hs vm vw 0 [] [] (.slice none 0 0) (.slice none 0 0) := by
  refine ⟨h.st.blk, h.st.rm, fun i _ hi => ?_, ⟨h.t, hbT, .inr (.inl rfl), Kd.R_nil _ _ _ _ _, Kd.R_nil _ _ _ _ _⟩, ⟨rfl, fun p hp => absurd hp (Nat.not_lt_zero p), fun p q hp => absurd hp (Nat.not_lt_zero p)⟩, Nat.zero_le _, fun p hp => absurd hp (Nat.not_lt_zero p), Nat.le_refl _, h.bel⟩
  obtain ⟨ys, hy, hR, he⟩ := h.ent i hi
  have e1 : (hs.getD i zH).n = ys.length := (Kd.R_reads' hR).1
  rw [he hi] at hR
  rw [e1]
  exact ⟨hy, hR⟩
theorem LB.step {m : Int} {x : Hd} (h : LB w0 wr ok base K T S hs vm vw j hsT msT vmT vkT) (hS : LS base K T S hs vm) (hj : j < hs.length)
    (hi : HI wr w' (okT S T hs (j + 1)) (fun k => okT S T hs (j + 1) k ∨ wr.heap.size ≤ k) base T (hsT.length + 41) hsT' msT' vmT' vkT' m x) : LB w0 w' ok base K T S hs vm vw (j + 1) hsT' msT' vmT' vkT' := by
  have hup : ∀ k, (okT S T hs (j + 1) k ∨ wr.heap.size ≤ k) → okT S T hs (j + 1) k := fun k hk => hk.elim id (fun hk => .inr (.inr (Nat.le_trans h.size hk)))
  have hblk : ∀ k, k < wr.heap.size → ¬ okT S T hs (j + 1) k → w'.heap[k]? = wr.heap[k]? := fun k hk hne => hi.fr.2.2.2.2 k hk hne
  refine ⟨(hblk K (blk_lt h.blk) ?_).trans h.blk, R_flat flatH h.rm (fun k hk => hblk k (IsWV.rowlt h.rm k hk) ?_) h.rm.1, fun i hji hlt => ⟨(h.rest i (by omega) hlt).1, ?_⟩, hi.st.mono hup, hi.fam.mono hup, ?_, hi.bnd, Nat.le_trans h.size hi.fr.size, ?_⟩
  · rintro (⟨i, _, hlt, e⟩ | e | e)
    · exact (hS.ap i hlt K e).2.1 rfl
    · exact hS.kT e
    · have := hS.kS; omega
  · rintro (⟨i, _, hlt, e⟩ | e | e)
    · exact (hS.ap i hlt k e).2.2.2.1 hk
    · exact (hS.vS k hk).2 e
    · have := (hS.vS k hk).1; omega
  · have hR := (h.rest i (by omega) hlt).2
    refine R_flat flat36 hR (fun k hk => hblk k (IsWV.rowlt hR k hk) ?_) hR.1
    rintro (⟨q, hq, hql, e⟩ | e | e)
    · exact hS.d1 i q hlt hql (by omega) k hk e
    · exact (hS.ap i hlt k hk).2.2.1 e
    · have := (hS.ap i hlt k hk).1; omega
  · have := hi.num
    have := h.num
    omega
  · refine below_fr h.bel (Nat.le_trans (Nat.le_of_lt (Nat.lt_of_le_of_lt hS.bT hS.tS)) h.size) hi.fr ?_
    rintro k (⟨q, hq, hql, e⟩ | e | e)
    · exact (hS.ap q hql k e).2.2.2.2
    · rw [e]; exact hS.bT
    · have := hS.bT; have := hS.tS; omega
theorem LB.mine (h : LB w0 wr ok base K T S hs vm vw j hsT msT vmT vkT) (hS : LS base K T S hs vm) (hj : j < hs.length) : ∀ p, p < hsT.length → 0 < (hsT.getD p zH).n → (hsT.getD p zH).a ≠ (hs.getD j zH).a := by
  intro p hp hn e
  obtain ⟨g, e1, ho, ⟨cur, hc⟩, _⟩ := h.fam.ent p hp hn
  rw [e1] at e
  have e2 : (encH (hs.getD j zH)).ownBlock = some g := by unfold encH; rw [← e]; simp [Value.ownBlock]
  rcases ho with ⟨i, hi, hlt, e3⟩ | e3 | e3
  · exact hS.d1 j i hj hlt (by omega) g e2 e3
  · exact (hS.ap j hj g e2).2.2.1 e3
  · have := (hS.ap j hj g e2).1; omega
theorem LB.far (h : LB w0 wr ok base K T S hs vm vw j hsT msT vmT vkT) (hj : j < hs.length) : (hs.getD j zH).n ≤ 1000 ∧ k36.R 36 wr base (okT S T hs (j + 1)) (encH (hs.getD j zH)) (List.replicate (hs.getD j zH).n (mkM (j : Nat))) := by
  obtain ⟨h1, h2⟩ := h.rest j (Nat.le_refl _) hj
  exact ⟨h1, R_flat flat36 h2 (fun _ _ => rfl) (fun k hk => .inl ⟨j, by omega, hj, hk⟩)⟩
end
end Go.Proofs.Ytameoapnhmoleaa
set_option linter.unusedVariables false
set_option linter.unusedSimpArgs false
namespace Go.Proofs.Ytameoapnhmoleaa
open Go.RowKit Go.Proofs.YtameoapnhmoleaaW.PrintWords Go.Proofs.YtameoapnhmoleaaW.PrintLast Go.Proofs.YtameoapnhmoleaaW.PrintMore
open PP

set_option maxRecDepth 100000 in
set_option maxHeartbeats 8000000 in
theorem lately_any (w0 : World) (ok0 : Nat → Prop) (K : Nat) (hs ws : List Hd) (vm vw : Value) (w : World) (hB : Below w0.heap.size w0 w) (hst : LKr w ok0 w0.heap.size K hs ws vm vw) (hlate : Late w ok0 w0.heap.size hs ws) (hl : hs.length ≤ 1000) :
    Calls Try.prog 31 #[.pointer (some ⟨K, 0, none⟩)] w fun e w' => e = .returned (.bool true) ∧ Below w0.heap.size w0 w' := by
  obtain ⟨ok, hok⟩ : ∃ ok : Nat → Prop, ok = fun k => ok0 k ∨ w.heap.size ≤ k := ⟨_, rfl⟩
  have hup : ∀ k, ok0 k → ok k := fun k hk => by rw [hok]; exact .inl hk
  have HNEW : Hid (∀ k, w.heap.size ≤ k → ok k) := Lib.hid (fun k hk => by rw [hok]; exact .inr hk)
  obtain ⟨Am, cm, evm⟩ := Kd.R_slice hst.rm
  subst evm
  obtain ⟨Aw, cw, evw⟩ := Kd.R_slice hst.rw_
  subst evw
  have HST0 := Lib.hid hst
  have HL0 := Lib.hid hlate
  have HST := Lib.hid (hst.mono hup)
  have HL := Lib.hid (hlate.mono hup)
  have HB := Lib.hid hB
  have HD1 := Lib.hid hlate.d1
  clear hok hup hst hlate hB
  go_enter Try.func31, Try.ntmps31
  go_wp2_with fail
  refine (aswas_any ok0 w0.heap.size K hs ws (.slice Am hs.length cm) (.slice Aw ws.length cw) w HST0.out HL0.out (by omega)).mono ?_
  rintro e w1 ⟨rfl, q0, rfl⟩
  go_upto_region 4 with fail
  have hla : LA w0 ((w.drewN q0).alloc (.cells #[.bool false, .slice none 0 0, .slice none 0 0, .slice none 0 0] 48)) ok K w.heap.size hs ws (.slice Am hs.length cm) (.slice Aw ws.length cw) 0 := by
    have hb : ∀ k, k < w.heap.size → ((w.drewN q0).alloc (.cells #[.bool false, .slice none 0 0, .slice none 0 0, .slice none 0 0] 48)).heap[k]? = w.heap[k]? := fun k hk => Below.heap_alloc (w.drewN q0) _ k hk
    refine ⟨HST.out.kept (fun g _ hg => hb g hg), heap_alloc_new _ _, HL.out.len, fun i hi => ?_, (Below.trans HB.out (b := w) (c := w.drewN q0) ⟨rfl, rfl, rfl, Nat.le_refl _, fun _ _ => rfl⟩).alloc HB.out.size _⟩
    obtain ⟨ys, y1, y2, _⟩ := HL.out.ent i hi
    exact ⟨ys, y1, R_flat flat36 y2 (fun k hk => hb k (IsWV.rowlt y2 k hk)) y2.1, fun h => absurd h (Nat.not_lt_zero i)⟩
  have HLA := Lib.hid hla
  clear hla
  generalize hW1 : (w.drewN q0).alloc (.cells #[.bool false, .slice none 0 0, .slice none 0 0, .slice none 0 0] 48) = W1 at *
  clear hW1
  go_wp2_with fail
  go_loopw [4] (fun i wr => ∃ j : Nat, j ≤ hs.length ∧ i = .int .i64 j ∧ Hid (∃ ws', LA w0 wr ok K w.heap.size hs ws' (.slice Am hs.length cm) (.slice Aw ws'.length cw) j)) (fun i _ => hs.length - (intOf i).toNat)
  case atStart => exact ⟨0, by omega, rfl, Lib.hid ⟨ws, HLA.out⟩⟩
  case round =>
    obtain ⟨j, hj, rfl, HS⟩ := hrel
    obtain ⟨ws', h5⟩ := HS.out
    have H5 := Lib.hid h5
    obtain ⟨c0, c1, c2, c3⟩ := cells4b h5.st.blk
    have hwl := h5.len
    clear h5
    by_cases hlt : j < hs.length
    · obtain ⟨gm, cm', em, _⟩ := Kd.R_form H5.out.st.rm (by omega)
      injection em with em1 _ em3
      subst em1
      subst em3
      obtain ⟨gw, cw', ew, _⟩ := Kd.R_form H5.out.st.rw_ (by omega)
      injection ew with ew1 _ ew3
      subst ew1
      subst ew3
      have hm0 := (kH_cell H5.out.st.rm j hlt).1
      obtain ⟨xs, hxl, r1, _⟩ := H5.out.ent j hlt
      have HX := Lib.hid (show hs.getD j zH = hs.getD j zH from rfl)
      generalize hx : hs.getD j zH = x at *
      obtain ⟨xa, xn, xc⟩ := x
      unfold encH at hm0 r1
      simp only at hm0 r1
      have hji : (j : Int) < (hs.length : Int) := by omega
      have hjk : (j : Int) < (ws'.length : Int) := by omega
      obtain rfl : xn = xs.length := (Kd.R_reads' r1).1
      have HR1 := Lib.hid r1
      have HXX := Lib.hid hx
      clear r1 hx
      go_wp2_with fail
      refine (fill_any w0 wr (.slice xa xs.length xc) xs (j : Int) ok H5.out.bel HR1.out (by omega)).mono ?_
      rintro e w2 ⟨rfl, hR2, hB2, hF2⟩
      have H6 := Lib.hid (H5.out.fill HD1.out hlt hxl (by rw [HXX.out]; exact hR2) hB2 (by rw [HXX.out]; exact hF2))
      have HR2 := Lib.hid hR2
      clear hR2 hB2 hF2 c0 c1 c2 c3 hm0
      obtain ⟨c0, c1, c2, c3⟩ := cells4b H6.out.st.blk
      have hm0 : w2.cell? ⟨gm, j, none⟩ = some (.slice xa xs.length xc) := by
        have := (kH_cell H6.out.st.rm j hlt).1
        rw [HXX.out] at this
        exact this
      have hcap := (Kd.R_reads' HR2.out).2.2
      rw [List.length_replicate] at hcap
      have HCAP := Lib.hid hcap
      clear hcap
      have HSZ := Lib.hid H6.out.bel.size
      have hgw := (IsWV.rowlt H6.out.st.rw_ gw (by simp [Value.ownBlock]))
      have hw1 := (kH_cell H6.out.st.rw_ j (by omega)).1
      have hw2 := (kH_cell H6.out.st.rw_ j (by omega)).2
      go_wp2_with fail
      go_region_law (first | (refine rows_step k36 (W := w2.drew) w0.heap.size (by rfl) (.const (.slice none 0 0)) (.tmp 40) 22 36 zero36 32 (by rfl) Try.underlying22 info36 size36 (by decide) (by decide) flat36 (.slice none 0 0) [] (List.replicate xs.length (mkM (j : Nat))) xa xs.length xc (fun k => w2.heap.size ≤ k) (by rfl) (by rfl) (k36_KM w0.heap.size) (Kd.R_nil _ _ _ _ _) (by exact Kd.C_drew HCAP.out) (fun k hk => hk) (by have := HSZ.out; show w0.heap.size ≤ w2.heap.size; omega) (by simp; omega) ?_; intro v5 w5 hR5 hg5 hat5; rw [List.nil_append] at hR5; obtain ⟨A5, k5, e5⟩ := Kd.R_slice hR5; rw [List.length_replicate] at e5; subst e5; have hg6 : w2.grownBy w5 none := (by have g : w2.grownBy w5 (Value.slice none 0 0).ownBlock := ⟨hg5.os, hg5.tape, hg5.output, hg5.size, hg5.block⟩; simpa [Value.ownBlock] using g); have hbw := (hg6.block gw hgw (by simp)); have d5 := (World.cell?_of_block hbw).trans hw1; have z5 := (World.frozen?_of_block hbw).trans hw2; have hbk := (hg6.block K H6.out.st.lt (by simp)).trans H6.out.st.blk; obtain ⟨k0, k1, k2, k3⟩ := cells4b hbk; have hltg := blk_lt hbk; have HG6 := Lib.hid hg6; clear hbw hbk hg5 hg6 hR5 hat5))
      all_goals
        have H7 := Lib.hid (H6.out.put' HG6.out j ⟨A5, xs.length, k5⟩)
        go_wp2_with fail
        go_roundw
        case rel => exact ⟨j + 1, by omega, by go_num, Lib.hid ⟨_, H7.out⟩⟩
        case measure => simp [intOf]; omega
    · obtain rfl : j = hs.length := by omega
      go_wp2_with fail
      have HLS := Lib.hid (LS.of H5.out HB.out.size HD1.out)
      have HLB := Lib.hid (LB.of H5.out HB.out.size)
      clear c0 c1 c2 c3
      generalize hvw : Value.slice Aw ws'.length cw = vw2 at *
      clear hvw HS H5 hwl
      generalize wr.heap.size = S at *
      go_loopw [5] (fun i wr => ∃ j : Nat, j ≤ hs.length ∧ i = .int .i64 j ∧ Hid (∃ hsT msT vmT vkT, LB w0 wr ok w0.heap.size K w.heap.size S hs (.slice Am hs.length cm) vw2 j hsT msT vmT vkT)) (fun i _ => hs.length - (intOf i).toNat)
      case atStart => exact ⟨0, by omega, rfl, Lib.hid ⟨_, _, _, _, HLB.out⟩⟩
      case round =>
        obtain ⟨j, hj, rfl, HS⟩ := hrel
        obtain ⟨hsT, msT, vmT, vkT, h5⟩ := HS.out
        have H5 := Lib.hid h5
        obtain ⟨c0, c1, c2, c3⟩ := cells4b h5.blk
        have HNUM := Lib.hid h5.num
        have HBS := Lib.hid (show w0.heap.size ≤ wr.heap.size from Nat.le_trans HB.out.size (by have := HLS.out.tS; have := h5.size; omega))
        clear h5
        by_cases hlt : j < hs.length
        · obtain ⟨gm, cm', em, _⟩ := Kd.R_form H5.out.rm (by omega)
          injection em with em1 _ em3
          subst em1
          subst em3
          have hm0 := (kH_cell H5.out.rm j hlt).1
          have hfar := H5.out.far hlt
          have hmine := H5.out.mine HLS.out hlt
          generalize hx : hs.getD j zH = x at *
          obtain ⟨xa, xn, xc⟩ := x
          unfold encH at hm0 hfar
          simp only at hm0 hfar hmine
          have hji : (j : Int) < (hs.length : Int) := by omega
          have HFAR := Lib.hid hfar
          have HMINE := Lib.hid hmine
          clear hfar hmine hx
          go_wp2_with fail
          refine (hold_any (okT S w.heap.size hs (j + 1)) w0.heap.size w.heap.size hsT msT vmT vkT xa xn xc (j : Int) wr (H5.out.nk.mono (fun k => okT_le (by omega) k)) (H5.out.fam.mono (fun k => okT_le (by omega) k)) HFAR.out.2 (fun p hp hn e => absurd e (HMINE.out p hp hn)) HBS.out (by have := HNUM.out; omega) (by have := HFAR.out.1; omega) H5.out.bnd).mono ?_
          rintro e w2 ⟨rfl, hs2, ms2, vm2, vk2, x2, h2⟩
          have H6 := Lib.hid (H5.out.step HLS.out hlt h2)
          clear h2 c0 c1 c2 c3 hm0
          go_wp2_with fail
          go_roundw
          case rel => exact ⟨j + 1, by omega, by go_num, Lib.hid ⟨_, _, _, _, H6.out⟩⟩
          case measure => simp [intOf]; omega
        · obtain rfl : j = hs.length := by omega
          go_wp2_with fail
          refine (whole_any (okT S w.heap.size hs hs.length) w0.heap.size w.heap.size hsT msT vmT vkT wr H5.out.nk H5.out.fam (by have := HNUM.out; omega) H5.out.bnd).mono ?_
          rintro e w2 ⟨rfl, q, rfl⟩
          go_wp2_with fail
          go_ret
          exact ⟨rfl, Below.trans H5.out.bel ⟨rfl, rfl, rfl, Nat.le_refl _, fun _ _ => rfl⟩⟩
set_option maxHeartbeats 1000000 in
theorem whole_late (w0 : World) (ok0 : Nat → Prop) (K : Nat) (hs ws : List Hd) (vm vw : Value) (w : World) (hB : Below w0.heap.size w0 w) (hst : LKr w ok0 w0.heap.size K hs ws vm vw) (hlate : Late w ok0 w0.heap.size hs ws) (hl : hs.length ≤ 1000) :
    Calls Try.prog 20 #[.pointer (some ⟨K, 0, none⟩)] w fun e w' => e = .returned (.bool true) ∧ Below w0.heap.size w0 w' := by
  obtain ⟨c0, c1, c2, c3⟩ := cells4b hst.blk
  have HST := Lib.hid hst
  have HL := Lib.hid hlate
  have HB := Lib.hid hB
  clear hst hlate hB
  go_enter Try.func20, Try.ntmps20
  go_wp2_with fail
  refine (lately_any w0 ok0 K hs ws vm vw w HB.out HST.out HL.out hl).mono ?_
  rintro e w2 ⟨rfl, hb2⟩
  go_wp2_with fail
  go_ret
  exact ⟨rfl, hb2⟩
end Go.Proofs.Ytameoapnhmoleaa
