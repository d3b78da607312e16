/- keep.row of a keep that is not late; keep.whole of it (chapter 13). keep.row of a late keep (chapter 13). keep.asWas (chapter 13). -/
import Derived.Test.YtameoapnhmoleaaKA
import Derived.Test.YtameoapnhmoleaaPJ
import Derived.Test.YtameoapnhmoleaaU
import Derived.Deep.QuietTactic
import Derived.BigQuiet
set_option linter.unusedVariables false
set_option linter.unusedSimpArgs false
namespace Go.Proofs.Ytameoapnhmoleaa
open Go.RowKit Go.Proofs.YtameoapnhmoleaaW.PrintWords Go.Proofs.YtameoapnhmoleaaW.PrintLast Go.Proofs.YtameoapnhmoleaaW.PrintMore
open PP

theorem filll_ev (m : Int) (N : Nat) (hN : N ≤ 1000000) : ∀ (d i : Nat) (x : List Mv), x.length = N → i + d = N → (∀ j, j < i → x.getD j z36 = mkM m) → Ev (fun k => quernlaw13_fillMoves.l0 k x m (i : Int)) (List.replicate N (mkM m))
  | 0, i, x, hx, h, hj => by
    have : x = List.replicate N (mkM m) := by
      refine List.ext_getElem (by simp [hx]) (fun j h1 h2 => ?_)
      have := hj j (by omega)
      rw [List.getD_eq_getElem?_getD, List.getElem?_eq_getElem h1] at this
      rw [List.getElem_replicate]
      exact this
    rw [this]
    exact Ev.step (fun k => by rw [quernlaw13_fillMoves.l0, if_neg (by simp; omega)]) (Ev.now _)
  | d + 1, i, x, hx, h, hj => by
    refine Ev.step (fun k => ?_) (filll_ev m N hN d (i + 1) (x.set i (mkM m)) (by simpa using hx) (by omega) (fun j hlt => ?_))
    · rw [quernlaw13_fillMoves.l0, if_pos (by omega), if_pos (by omega), wrap_nat i (by omega), Int.toNat_natCast]
      rfl
    · rw [List.getD_eq_getElem?_getD, List.getElem?_set]
      by_cases e : i = j
      · subst e; rw [if_pos rfl, if_pos (by omega)]; rfl
      · rw [if_neg e, ← List.getD_eq_getElem?_getD]
        exact hj j (by omega)
theorem fill_ev (x : List Mv) (m : Int) (h : x.length ≤ 1000000) : Ev (fun k => quernlaw13_fillMoves.f k x m) (List.replicate x.length (mkM m)) := filll_ev m x.length h x.length 0 x rfl (by omega) (fun j hj => absurd hj (Nat.not_lt_zero j))
/-- A list is written full of its mark. -/
theorem fill_any (w0 w : World) (v : Value) (xs : List Mv) (m : Int) (ok : Nat → Prop) (hB : Below w0.heap.size w0 w) (hR : k36.R 36 w w0.heap.size ok v xs) (hl : xs.length ≤ 1000000) :
    Calls Try.prog 29 #[v, .int .i64 m] w fun e w' => e = .returned (.tuple #[]) ∧ k36.R 36 w' w0.heap.size ok v (List.replicate xs.length (mkM m)) ∧ Below w0.heap.size w0 w' ∧ Fr w w' (fun k => some k = v.ownBlock) := by
  obtain ⟨k, hk⟩ := (fill_ev xs m hl).rounds
  refine (quernlaw13_fillMoves.calls k (fun k => some k = v.ownBlock) v xs m _ w0 w hB (R_flat flat36 hR (fun _ _ => rfl) (fun k hk => hk.symm)) hk).mono ?_
  rintro e w' ⟨he, h1, h2, h3⟩
  exact ⟨he, R_flat flat36 h1 (fun _ _ => rfl) hR.1, h2, ⟨h2.os.trans hB.os.symm, h2.tape.trans hB.tape.symm, h2.output.trans hB.output.symm, h3⟩⟩
def RowPost (w0 w : World) (ok : Nat → Prop) (K L : Nat) (e : Ending) (w' : World) : Prop :=
  e = .returned (.tuple #[]) ∧ ∃ hs ms vm vk, NKr w' (fun k => ok k ∨ w.heap.size ≤ k) w0.heap.size K hs ms vm vk ∧ Fam w' (fun k => ok k ∨ w.heap.size ≤ k) hs ms ∧ hs.length ≤ L + 41 ∧ Fr w w' ok ∧ ∀ j, j < hs.length → (hs.getD j zH).n ≤ 1000000
set_option maxHeartbeats 2000000 in
theorem row_any (w0 : World) (ok : Nat → Prop) (K : Nat) (hs : List Hd) (ms : List Int) (vm vk : Value) (A : Option Addr) (n c : Nat) (xs : List Mv) (w : World) (hB : Below w0.heap.size w0 w) (hst : NKr w ok w0.heap.size K hs ms vm vk) (hfam : Fam w ok hs ms)
    (hfar : k36.R 36 w w0.heap.size ok (.slice A n c) xs) (hmine : ∀ j, j < hs.length → 0 < (hs.getD j zH).n → (hs.getD j zH).a ≠ A) (hl : hs.length ≤ 100000) (hn : n ≤ 100000) (hbnd : ∀ j, j < hs.length → (hs.getD j zH).n ≤ 1000000) :
    Calls Try.prog 19 #[.pointer (some ⟨K, 0, none⟩), .slice A n c] w (RowPost w0 w ok K hs.length) := by
  have hnx : n = xs.length := (Kd.R_reads' hfar).1
  subst hnx
  obtain ⟨Ak, ck, evk⟩ := Kd.R_slice hst.rk
  subst evk
  have HST := Lib.hid hst
  have HFAM := Lib.hid hfam
  have HFAR := Lib.hid hfar
  have HMINE := Lib.hid hmine
  have HB := Lib.hid hB
  obtain ⟨c0, c1, c2, c3⟩ := cells4b hst.blk
  have hml := hfam.len
  have HML := Lib.hid hml
  have HBND := Lib.hid hbnd
  clear hB hst hfam hfar hmine hml hbnd
  go_enter Try.func19, Try.ntmps19
  go_wp2_with fail
  refine (fill_any w0 w (.slice A xs.length c) xs (ms.length : Int) ok HB.out HFAR.out (by omega)).mono ?_
  rintro e w1 ⟨rfl, hR1, hB1, hF1⟩
  have HB1 := Lib.hid hB1
  have HF1 := Lib.hid hF1
  have hlt1 := hF1.size
  have hne : ∀ {α : Type} {d : Kd α} {e : Nat} {v : Value} {ys : List α}, d.R e w w0.heap.size ok v ys → e ≠ 36 → d.R e w1 w0.heap.size ok v ys → True := fun _ _ _ => trivial
  have hblk : ∀ k, k < w.heap.size → some k ≠ (Value.slice A xs.length c).ownBlock → w1.heap[k]? = w.heap[k]? := fun k hk hne => hF1.2.2.2.2 k hk hne
  have hst1 : NKr w1 ok w0.heap.size K hs ms vm (.slice Ak ms.length ck) := by
    refine ⟨(hblk K HST.out.lt (Ne.symm (row_ne HFAR.out HST.out.blk (by decide)))).trans HST.out.blk, HST.out.bK, HST.out.okK, ?_, ?_⟩
    · exact R_flat flatH HST.out.rm (fun k hk => hblk k (IsWV.rowlt HST.out.rm k hk) (fun e => row_ne_row HST.out.rm HFAR.out (by decide) k hk e.symm)) HST.out.rm.1
    · exact R_flat flatI HST.out.rk (fun k hk => hblk k (IsWV.rowlt HST.out.rk k hk) (fun e => row_ne_row HST.out.rk HFAR.out (by decide) k hk e.symm)) HST.out.rk.1
  have hfam1 : Fam w1 ok hs ms := by
    refine ⟨HFAM.out.len, fun j hj hn => ?_, HFAM.out.sep⟩
    obtain ⟨g, e, ho, ⟨cur, hc⟩, hf⟩ := HFAM.out.ent j hj hn
    have hs := hblk g (blk_lt hc) (fun e2 => ?_)
    · exact ⟨g, e, ho, ⟨cur, hs.trans hc⟩, hf.kept hs⟩
    · obtain ⟨inner, hi⟩ := Kd.R_own HFAR.out
      rcases hi.2 with ⟨e0, _⟩ | ⟨g', cap', cur', e0, _⟩
      · rw [e0] at e2; simp [Value.ownBlock] at e2
      · rw [e0] at e2
        have e3 : g = g' := by simpa [Value.ownBlock] using e2
        injection e0 with e0
        exact HMINE.out j hj hn (by rw [e, e0, e3])
  have HST1 := Lib.hid hst1
  have HFAM1 := Lib.hid hfam1
  have HR1 := Lib.hid hR1
  clear hst1 hfam1 hR1 hB1 hF1 hne hblk c0 c1 c2 c3
  go_wp2_with fail
  refine (hold_any ok w0.heap.size K hs ms vm (.slice Ak ms.length ck) A xs.length c (ms.length : Int) w1 HST1.out HFAM1.out HR1.out (fun j hj hn e => absurd e (HMINE.out j hj hn)) HB1.out.size (by omega) (by omega) HBND.out).mono ?_
  rintro e w2 ⟨rfl, hs2, ms2, vm2, vk2, x2, h2⟩
  have H2 := Lib.hid h2
  clear h2
  go_wp2_with fail
  go_end0
  have hup : ∀ k, (ok k ∨ w1.heap.size ≤ k) → (ok k ∨ w.heap.size ≤ k) := fun k hk => hk.imp id (fun h => by omega)
  refine ⟨rfl, hs2, ms2, vm2, vk2, H2.out.st.mono hup, H2.out.fam.mono hup, H2.out.num, ?_, H2.out.bnd⟩
  exact (HF1.out.mono (fun k hk => HFAR.out.1 k hk.symm)).then_ H2.out.fr (fun k hk => .inl hk)
attribute [local go_sem high] eqA36
set_option maxHeartbeats 4000000 in
theorem whole_any (ok : Nat → Prop) (base K : Nat) (hs : List Hd) (ms : List Int) (vm vk : Value) (w : World) (hst : NKr w ok base K hs ms vm vk) (hfam : Fam w ok hs ms) (hl : hs.length ≤ 1000000) (hn : ∀ j, j < hs.length → (hs.getD j zH).n ≤ 1000000) :
    Calls Try.prog 20 #[.pointer (some ⟨K, 0, none⟩)] w fun e w' => e = .returned (.bool true) ∧ ∃ q, w' = w.drewN q := by
  obtain ⟨Ak, ck, evk⟩ := Kd.R_slice hst.rk
  subst evk
  obtain ⟨Am, cm, evm⟩ := Kd.R_slice hst.rm
  subst evm
  have HST := Lib.hid hst
  have HFAM := Lib.hid hfam
  have HN := Lib.hid hn
  obtain ⟨c0, c1, c2, c3⟩ := cells4b hst.blk
  have HBLK := Lib.hid hst.blk
  clear hst hfam hn
  go_enter Try.func20, Try.ntmps20
  go_wp2_with fail
  clear c0 c1 c2 c3
  go_loopw [3] (fun i wr => ∃ j : Nat, j ≤ hs.length ∧ i = .int .i64 j ∧ Hid (∃ q, wr = w.drewN q)) (fun i _ => hs.length - (intOf i).toNat)
  case atStart => exact ⟨0, by omega, rfl, Lib.hid ⟨0, rfl⟩⟩
  case round =>
    obtain ⟨j, hj, rfl, HQ⟩ := hrel
    obtain ⟨q, rfl⟩ := HQ.out
    clear HQ
    obtain ⟨c0, c1, c2, c3⟩ := cells4b HBLK.out
    by_cases hlt : j < hs.length
    · have hml := HFAM.out.len
      obtain ⟨gm, cm', em, _⟩ := Kd.R_form HST.out.rm (by omega)
      injection em with em1 _ em3
      subst em1
      subst em3
      obtain ⟨gk, ck', ek, _⟩ := Kd.R_form HST.out.rk (by omega)
      injection ek with ek1 _ ek3
      subst ek1
      subst ek3
      have hm0 := (kH_cell HST.out.rm j hlt).1
      have hk0 := (kI_cell HST.out.rk j (by omega)).1
      have hent := HFAM.out.ent j hlt
      have hnx := HN.out j hlt
      generalize hs.getD j zH = x at *
      obtain ⟨xa, xn, xc⟩ := x
      simp only at hent hnx
      unfold encH at hm0
      simp only at hm0
      generalize rd ms (j : Nat) = mk at *
      have hji : (j : Int) < (hs.length : Int) := by omega
      have hjk : (j : Int) < (ms.length : Int) := by omega
      have HENT := Lib.hid hent
      have HM0 := Lib.hid hm0
      have HK0 := Lib.hid hk0
      clear hent hm0 hk0 hml
      have hm1 := HM0.out
      go_wp2_with fail
      clear c0 c1 c2 c3 hm1
      go_loopw [4] (fun i wr => ∃ p : Nat, p ≤ xn ∧ i = .int .i64 p ∧ Hid (∃ q, wr = w.drewN q)) (fun i _ => xn - (intOf i).toNat)
      case atStart => exact ⟨0, by omega, rfl, Lib.hid ⟨q, rfl⟩⟩
      case round =>
        obtain ⟨p, hp, rfl, HQ⟩ := hrel
        obtain ⟨q2, rfl⟩ := HQ.out
        clear HQ
        obtain ⟨c0, c1, c2, c3⟩ := cells4b HBLK.out
        have hm1 := HM0.out
        have hk1 := HK0.out
        by_cases hltp : p < xn
        · obtain ⟨g, hxa, _, _, hf⟩ := HENT.out (by omega)
          subst hxa
          obtain ⟨f0, f1, f2, f3⟩ := hf p hltp
          have g0 := f0
          have g1 := f1
          have g2 := f2
          have g3 := f3
          have hpi : (p : Int) < (xn : Int) := by omega
          clear f0 f1 f2 f3 hf
          go_wp2_with fail
          go_quiet (fail)
          go_wp2_with fail
          go_roundw
          case rel => exact ⟨p + 1, by omega, by go_num, Lib.hid ⟨q2 + nq, rfl⟩⟩
          case measure => simp [intOf]; omega
        · go_wp2_with fail
          go_roundw
          case rel => exact ⟨j + 1, by omega, by go_num, Lib.hid ⟨q2, rfl⟩⟩
          case measure => simp [intOf]; omega
    · go_wp2_with fail
      go_ret
      exact ⟨rfl, q, rfl⟩
end Go.Proofs.Ytameoapnhmoleaa
set_option linter.unusedVariables false
set_option linter.unusedSimpArgs false
namespace Go.Proofs.Ytameoapnhmoleaa
open Go.RowKit Go.Proofs.YtameoapnhmoleaaW.PrintWords Go.Proofs.YtameoapnhmoleaaW.PrintLast Go.Proofs.YtameoapnhmoleaaW.PrintMore
open PP

structure LKr (w : World) (ok : Nat → Prop) (base K : Nat) (hs ws : List Hd) (vm vw : Value) : Prop where
  blk : w.heap[K]? = some (.cells #[.bool true, vm, vw, .slice none 0 0] 48 (0, 0))
  bK : base ≤ K
  okK : ok K
  rm : kH.R 22 w base ok vm hs
  rw_ : kH.R 22 w base ok vw ws
  ne : NeRow vm vw
structure Late (w : World) (ok : Nat → Prop) (base : Nat) (hs ws : List Hd) : Prop where
  len : hs.length = ws.length
  ent : ∀ j, j < hs.length → ∃ xs : List Mv, xs.length ≤ 1000 ∧ k36.R 36 w base ok (encH (hs.getD j zH)) xs ∧ k36.R 36 w base ok (encH (ws.getD j zH)) xs
  d1 : ∀ i j, i < hs.length → j < hs.length → i ≠ j → NeRow (encH (hs.getD i zH)) (encH (hs.getD j zH))
  d2 : ∀ i j, i < hs.length → j < ws.length → NeRow (encH (hs.getD i zH)) (encH (ws.getD j zH))
section
variable {w w' w1 : World} {ok ok' : Nat → Prop} {base K : Nat} {hs ws : List Hd} {vm vw vm1 vw1 : Value} {x y : Hd}
theorem LKr.lt (h : LKr w ok base K hs ws vm vw) : K < w.heap.size := blk_lt h.blk
theorem LKr.mono (h : LKr w ok base K hs ws vm vw) (ho : ∀ k, ok k → ok' k) : LKr w ok' base K hs ws vm vw :=
  ⟨h.blk, h.bK, ho _ h.okK, R_flat flatH h.rm (fun _ _ => rfl) (fun k hk => ho k (h.rm.1 k hk)), R_flat flatH h.rw_ (fun _ _ => rfl) (fun k hk => ho k (h.rw_.1 k hk)), h.ne⟩
theorem LKr.tight (h : LKr w ok base K hs ws vm vw) : LKr w (fun k => ok k ∧ k < w.heap.size) base K hs ws vm vw :=
  ⟨h.blk, h.bK, ⟨h.okK, h.lt⟩, R_flat flatH h.rm (fun _ _ => rfl) (fun k hk => ⟨h.rm.1 k hk, IsWV.rowlt h.rm k hk⟩), R_flat flatH h.rw_ (fun _ _ => rfl) (fun k hk => ⟨h.rw_.1 k hk, IsWV.rowlt h.rw_ k hk⟩), h.ne⟩
theorem LKr.kept (h : LKr w ok base K hs ws vm vw) (hb : ∀ g, ok g → g < w.heap.size → w'.heap[g]? = w.heap[g]?) : LKr w' ok base K hs ws vm vw :=
  ⟨(hb K h.okK h.lt).trans h.blk, h.bK, h.okK, R_flat flatH h.rm (fun k hk => hb k (h.rm.1 k hk) (IsWV.rowlt h.rm k hk)) h.rm.1, R_flat flatH h.rw_ (fun k hk => hb k (h.rw_.1 k hk) (IsWV.rowlt h.rw_ k hk)) h.rw_.1, h.ne⟩
theorem Late.mono (h : Late w ok base hs ws) (ho : ∀ k, ok k → ok' k) : Late w ok' base hs ws :=
  ⟨h.len, fun j hj => by obtain ⟨xs, a, b, c⟩ := h.ent j hj; exact ⟨xs, a, R_flat flat36 b (fun _ _ => rfl) (fun k hk => ho k (b.1 k hk)), R_flat flat36 c (fun _ _ => rfl) (fun k hk => ho k (c.1 k hk))⟩, h.d1, h.d2⟩
theorem Late.tight (h : Late w ok base hs ws) : Late w (fun k => ok k ∧ k < w.heap.size) base hs ws :=
  ⟨h.len, fun j hj => by obtain ⟨xs, a, b, c⟩ := h.ent j hj; exact ⟨xs, a, R_flat flat36 b (fun _ _ => rfl) (fun k hk => ⟨b.1 k hk, IsWV.rowlt b k hk⟩), R_flat flat36 c (fun _ _ => rfl) (fun k hk => ⟨c.1 k hk, IsWV.rowlt c k hk⟩)⟩, h.d1, h.d2⟩
theorem Late.kept (h : Late w ok base hs ws) (hb : ∀ g cur, ok g → w.heap[g]? = some (.cells cur 36 (0, 0)) → w'.heap[g]? = w.heap[g]?) : Late w' ok base hs ws :=
  ⟨h.len, fun j hj => by
    obtain ⟨xs, a, b, c⟩ := h.ent j hj
    refine ⟨xs, a, R_flat flat36 b (fun k hk => ?_) b.1, R_flat flat36 c (fun k hk => ?_) c.1⟩
    · obtain ⟨_, cur, hc⟩ := row_block b hk
      exact hb k cur (b.1 k hk) hc
    · obtain ⟨_, cur, hc⟩ := row_block c hk
      exact hb k cur (c.1 k hk) hc, h.d1, h.d2⟩
theorem blk_diff {g : Nat} {cs cs' : Array Value} {t t' : TypeId} (h : w.heap[g]? = some (.cells cs t (0, 0))) (h' : w.heap[g]? = some (.cells cs' t' (0, 0))) : t = t' := by
  rw [h] at h'
  injection h' with h'
  injection h' with _ h'
theorem LKr.pushM (h : LKr w ok base K hs ws vm vw) (hR : kH.R 22 w1 base ok vm1 (hs ++ [x])) (hg : w.grownBy w1 vm.ownBlock) (hat : vm1.ownBlock = vm.ownBlock ∨ ∃ b, vm1.ownBlock = some b ∧ w.heap.size ≤ b) :
    LKr (w1.setCell ⟨K, 1, none⟩ vm1) ok base K (hs ++ [x]) ws vm1 vw ∧ Fr w (w1.setCell ⟨K, 1, none⟩ vm1) (fun k => k = K ∨ some k = vm.ownBlock) := by
  have hne : vm.ownBlock ≠ some K := row_ne h.rm h.blk (by decide)
  have hne1 : vm1.ownBlock ≠ some K := by
    rcases hat with e | ⟨b, e, hb2⟩
    · rwa [e]
    · rw [e]; intro he; cases he; have := h.lt; omega
  have hb1 : w1.heap[K]? = _ := (hg.block K h.lt (Ne.symm hne)).trans h.blk
  have hS : ∀ q, q < w.heap.size → q ≠ K → vm.ownBlock ≠ some q → (w1.setCell ⟨K, 1, none⟩ vm1).heap[q]? = w.heap[q]? := fun q hq h1 h2 => (Below.heap_setCell w1 ⟨K, 1, none⟩ vm1 q h1).trans (hg.block q hq (Ne.symm h2))
  refine ⟨⟨blk_set hb1 1 vm1, h.bK, h.okK, R_flat flatH hR (fun k hk => Below.heap_setCell w1 ⟨K, 1, none⟩ vm1 k (fun e => hne1 (by rw [hk]; exact congrArg some e))) hR.1, ?_, ?_⟩, Fr.set (S := fun k => k = K ∨ some k = vm.ownBlock) (p := ⟨K, 1, none⟩) (Fr.of_grown hg (fun k hk => .inr hk.symm)) (.inl (.inl rfl)) vm1⟩
  · exact R_flat flatH h.rw_ (fun k hk => hS k (IsWV.rowlt h.rw_ k hk) (fun e => row_ne h.rw_ h.blk (by decide) (e ▸ hk)) (fun e => h.ne k e hk)) h.rw_.1
  · intro k hk hk'
    rcases hat with e | ⟨b, e, hb2⟩
    · exact h.ne k (e ▸ hk) hk'
    · rw [e] at hk
      cases hk
      have := IsWV.rowlt h.rw_ _ hk'
      omega
theorem LKr.pushW (h : LKr w ok base K hs ws vm vw) (hR : kH.R 22 w1 base ok vw1 (ws ++ [x])) (hg : w.grownBy w1 vw.ownBlock) (hat : vw1.ownBlock = vw.ownBlock ∨ ∃ b, vw1.ownBlock = some b ∧ w.heap.size ≤ b) :
    LKr (w1.setCell ⟨K, 2, none⟩ vw1) ok base K hs (ws ++ [x]) vm vw1 ∧ Fr w (w1.setCell ⟨K, 2, none⟩ vw1) (fun k => k = K ∨ some k = vw.ownBlock) := by
  have hne : vw.ownBlock ≠ some K := row_ne h.rw_ h.blk (by decide)
  have hne1 : vw1.ownBlock ≠ some K := by
    rcases hat with e | ⟨b, e, hb2⟩
    · rwa [e]
    · rw [e]; intro he; cases he; have := h.lt; omega
  have hb1 : w1.heap[K]? = _ := (hg.block K h.lt (Ne.symm hne)).trans h.blk
  have hS : ∀ q, q < w.heap.size → q ≠ K → vw.ownBlock ≠ some q → (w1.setCell ⟨K, 2, none⟩ vw1).heap[q]? = w.heap[q]? := fun q hq h1 h2 => (Below.heap_setCell w1 ⟨K, 2, none⟩ vw1 q h1).trans (hg.block q hq (Ne.symm h2))
  refine ⟨⟨blk_set hb1 2 vw1, h.bK, h.okK, ?_, R_flat flatH hR (fun k hk => Below.heap_setCell w1 ⟨K, 2, none⟩ vw1 k (fun e => hne1 (by rw [hk]; exact congrArg some e))) hR.1, ?_⟩, Fr.set (S := fun k => k = K ∨ some k = vw.ownBlock) (p := ⟨K, 2, none⟩) (Fr.of_grown hg (fun k hk => .inr hk.symm)) (.inl (.inl rfl)) vw1⟩
  · exact R_flat flatH h.rm (fun k hk => hS k (IsWV.rowlt h.rm k hk) (fun e => row_ne h.rm h.blk (by decide) (e ▸ hk)) (fun e => h.ne k hk e)) h.rm.1
  · intro k hk hk'
    rcases hat with e | ⟨b, e, hb2⟩
    · exact h.ne k hk (e ▸ hk')
    · rw [e] at hk'
      cases hk'
      have := IsWV.rowlt h.rm _ hk
      omega
/-- A store of the state's own leaves the lists. -/
theorem Late.state {v : Value} {zs : List Hd} (h : Late w ok base hs ws) (hF : Fr w w' (fun k => k = K ∨ some k = v.ownBlock)) (hK : ∃ cs, w.heap[K]? = some (.cells cs 48 (0, 0))) (hv : kH.R 22 w base ok v zs) : Late w' ok base hs ws := by
  refine h.kept (fun g cur ho hc => hF.2.2.2.2 g (blk_lt hc) ?_)
  rintro (rfl | e)
  · obtain ⟨cs, hk⟩ := hK
    exact absurd (blk_diff hc hk) (by decide)
  · obtain ⟨_, cs, hk⟩ := row_block hv e.symm
    exact absurd (blk_diff hc hk) (by decide)
theorem row_state {v v' : Value} {zs : List Hd} {xs : List Mv} {ok2 : Nat → Prop} (h : k36.R 36 w base ok2 v' xs) (hF : Fr w w' (fun k => k = K ∨ some k = v.ownBlock)) (hK : ∃ cs, w.heap[K]? = some (.cells cs 48 (0, 0))) (hv : kH.R 22 w base ok v zs) : k36.R 36 w' base ok2 v' xs := by
  refine R_flat flat36 h (fun k hk => hF.2.2.2.2 k (IsWV.rowlt h k hk) ?_) h.1
  obtain ⟨_, cur, hc⟩ := row_block h hk
  rintro (rfl | e)
  · obtain ⟨cs, hk⟩ := hK
    exact absurd (blk_diff hc hk) (by decide)
  · obtain ⟨_, cs, hk⟩ := row_block hv e.symm
    exact absurd (blk_diff hc hk) (by decide)
/-- One more. -/
theorem Late.more {xs : List Mv} (h : Late w ok base hs ws) (hl : xs.length ≤ 1000) (hx : k36.R 36 w base ok (encH x) xs) (hy : k36.R 36 w base ok (encH y) xs) (h1 : ∀ j, j < hs.length → NeRow (encH (hs.getD j zH)) (encH x)) (h2 : ∀ j, j < ws.length → NeRow (encH x) (encH (ws.getD j zH)))
    (h3 : ∀ j, j < hs.length → NeRow (encH (hs.getD j zH)) (encH y)) (h4 : NeRow (encH x) (encH y)) : Late w ok base (hs ++ [x]) (ws ++ [y]) := by
  have hln := h.len
  refine ⟨by simp [hln], fun j hj => ?_, fun i j hi hj hne => ?_, fun i j hi hj => ?_⟩
  · rcases getD_last (d := zH) hj with ⟨a1, a2⟩ | ⟨a1, a2⟩ <;> rcases getD_last (l := ws) (x := y) (d := zH) (j := j) (by simp; omega) with ⟨b1, b2⟩ | ⟨b1, b2⟩ <;> (try omega) <;> rw [a2, b2]
    · exact h.ent j a1
    · exact ⟨xs, hl, hx, hy⟩
  · rcases getD_last (d := zH) hi with ⟨a1, a2⟩ | ⟨a1, a2⟩ <;> rcases getD_last (d := zH) hj with ⟨b1, b2⟩ | ⟨b1, b2⟩ <;> (try omega) <;> rw [a2, b2]
    · exact h.d1 i j a1 b1 hne
    · exact h1 i a1
    · exact ne_symm (h1 j b1)
  · rcases getD_last (d := zH) hi with ⟨a1, a2⟩ | ⟨a1, a2⟩ <;> rcases getD_last (d := zH) hj with ⟨b1, b2⟩ | ⟨b1, b2⟩ <;> rw [a2, b2]
    · exact h.d2 i j a1 b1
    · exact h3 i a1
    · exact h2 j b1
    · exact h4
end
section
variable {P : Program} {ops : Array Oper} {o : Oper} {a : Act} {Q : Exit → Act → World → Prop} {Kc : Act → World → Prop} {α : Type} {E : Prop}
/-- A row that is read, appended at a step of a region. -/
theorem rows_step (d : Kd α) {W : World} (base : Nat) (hgd : o.guard = none) (s x : Operand) (t e : TypeId) (z : Value) (bytes : Nat)
    (ho : o.op = .call { callee := .builtin .append, args := #[s, x], argTypes := #[t, t] })
    (ht : P.underlying t = some (.slice e)) (hinfo : (P.info? e).map (fun i => (i.zero, i.size, i.bytes)) = some (some z, d.sz, bytes)) (hz : z.cells.size = d.sz) (hs0 : 0 < d.sz) (hb0 : 0 < bytes) (hd : Flat d)
    (v : Value) (xs ys : List α) (A : Option Addr) (m c : Nat) (ok : Nat → Prop) (hs : a.eval s = v) (hx : a.eval x = .slice A m c) (hKM : ∀ (w : World) x cs, d.K w x cs → d.M w base (fun _ => False) x cs)
    (HO : d.R e W base ok v xs) (HR : d.C W A m ys) (hfresh : ∀ k, W.heap.size ≤ k → ok k) (hbase : base ≤ W.heap.size) (hl : (xs.length + m) * bytes ≤ 140737488355328)
    (h : ∀ v1 w1, d.R e w1 base ok v1 (xs ++ ys) → W.grownBy w1 v.ownBlock → (v1.ownBlock = v.ownBlock ∨ ∃ b, v1.ownBlock = some b ∧ W.heap.size ≤ b) → Kc (a.put o.dst v1) w1) :
    if Region.wanted o (yielded ops a.tmps) = true then Oper.wp P o a W Kc Q else E := by
  have hw : Region.wanted o (yielded ops a.tmps) = true := by simp [Region.wanted, hgd]
  have := Kd.R_append_rows_step (P := P) (ops := ops) (o := o) (a := a) (Q := Q) (Kc := Kc) d (Rr := d.K W) (w0 := W) base hw s x t e z bytes ho ht hinfo hz hs0 hb0 v xs ys A m c ok (fun _ => False) hs hx HO HR (fun x cs hk => hKM W x cs hk) (fun _ h => h.elim) hfresh (Below.refl _ _) hbase hl (fun v1 w1 h1 _ h2 h3 => h v1 w1 h1 h2 h3)
  rw [if_pos hw] at this ⊢
  exact this
end
theorem k36_KM (base : Nat) (w : World) (x : Mv) (cs : List Value) (h : k36.K w x cs) : k36.M w base (fun _ => False) x cs := by
  rw [k36_open h]
  exact k36_mkM w base _ x
def LRowPost (w : World) (ok : Nat → Prop) (base K : Nat) (hs ws : List Hd) (x : Hd) (e : Ending) (w' : World) : Prop :=
  e = .returned (.tuple #[]) ∧ ∃ y vm vw, LKr w' (fun k => ok k ∨ w.heap.size ≤ k) base K (hs ++ [x]) (ws ++ [y]) vm vw ∧ Late w' (fun k => ok k ∨ w.heap.size ≤ k) base (hs ++ [x]) (ws ++ [y]) ∧ Fr w w' ok
theorem lrow_end {ok ok' : Nat → Prop} {base K : Nat} {hs ws : List Hd} {vm vw v6 : Value} {x y : Hd} {xs : List Mv} {w W2 w5 w6 : World} (hok : ok' = fun k => ok k ∨ w.heap.size ≤ k) (hxs : xs.length ≤ 1000)
    (hF2 : Fr w W2 ok) (h1 : LKr W2 ok' base K (hs ++ [x]) ws vm vw) (h3 : Late W2 ok' base hs ws) (h4 : k36.R 36 W2 base ok' (encH x) xs) (n1 : ∀ j, j < hs.length → NeRow (encH (hs.getD j zH)) (encH x)) (n2 : ∀ j, j < ws.length → NeRow (encH x) (encH (ws.getD j zH)))
    (g5 : W2.drew.grownBy w5 (Value.slice none 0 0).ownBlock) (r5 : k36.R 36 w5 base (fun k => W2.heap.size ≤ k) (encH y) xs)
    (g6 : w5.grownBy w6 vw.ownBlock) (r6 : kH.R 22 w6 base ok' v6 (ws ++ [y])) (t6 : v6.ownBlock = vw.ownBlock ∨ ∃ b, v6.ownBlock = some b ∧ w5.heap.size ≤ b) :
    LRowPost w ok base K hs ws x (.returned (.tuple #[])) (w6.setCell ⟨K, 2, none⟩ v6) := by
  have hW := hF2.size
  have hsub : ∀ k, ok' k → ok k ∨ w.heap.size ≤ k := fun k hk => by rw [hok] at hk; exact hk
  have hb5 : ∀ k, k < W2.heap.size → w5.heap[k]? = W2.heap[k]? := fun k hk => g5.block k hk (by simp [Value.ownBlock])
  have hF5 : Fr W2 w5 (fun _ => False) := Fr.of_grown (row := none) (by have g : W2.grownBy w5 (Value.slice none 0 0).ownBlock := ⟨g5.os, g5.tape, g5.output, g5.size, g5.block⟩; simpa [Value.ownBlock] using g) (fun k hk => by cases hk)
  have hs5 := hF5.size
  have h1' : LKr w5 ok' base K (hs ++ [x]) ws vm vw := h1.kept (fun g _ hg => hb5 g hg)
  have h3' : Late w5 ok' base hs ws := h3.kept (fun g cur _ hc => hb5 g (blk_lt hc))
  have h4' : k36.R 36 w5 base ok' (encH x) xs := R_flat flat36 h4 (fun k hk => hb5 k (IsWV.rowlt h4 k hk)) h4.1
  have r5' : k36.R 36 w5 base ok' (encH y) xs := R_flat flat36 r5 (fun _ _ => rfl) (fun k hk => by rw [hok]; exact .inr (Nat.le_trans hW (r5.1 k hk)))
  obtain ⟨a1, a2⟩ := h1'.pushW r6 g6 t6
  have hK5 : ∃ cs, w5.heap[K]? = some (.cells cs 48 (0, 0)) := ⟨_, h1'.blk⟩
  have b3 := h3'.state a2 hK5 h1'.rw_
  have b4 := row_state h4' a2 hK5 h1'.rw_
  have b5 := row_state r5' a2 hK5 h1'.rw_
  refine ⟨rfl, y, vm, v6, by rw [hok] at a1; exact a1, ?_, ?_⟩
  · have := b3.more hxs b4 b5 n1 n2 (fun j hj k hk hk' => ?_) (fun k hk hk' => ?_)
    · rw [hok] at this; exact this
    · obtain ⟨ys, _, e, _⟩ := h3.ent j hj
      have := IsWV.rowlt e k hk
      have := r5.1 k hk'
      omega
    · have := IsWV.rowlt h4 k hk
      have := r5.1 k hk'
      omega
  · refine (hF2.then_ hF5 (fun k hk => hk.elim)).then_ a2 ?_
    rintro k (rfl | hk)
    · exact hsub _ h1.okK
    · exact hsub _ (h1.rw_.1 k hk.symm)
set_option maxHeartbeats 8000000 in
theorem lrow_any (ok : Nat → Prop) (base K : Nat) (hs ws : List Hd) (vm vw : Value) (A : Option Addr) (n c : Nat) (xs : List Mv) (w : World) (hst : LKr w ok base K hs ws vm vw) (hlate : Late w ok base hs ws)
    (hfar : k36.R 36 w base ok (.slice A n c) xs) (h1 : ∀ j, j < hs.length → NeRow (encH (hs.getD j zH)) (.slice A n c)) (h2 : ∀ j, j < ws.length → NeRow (.slice A n c) (encH (ws.getD j zH))) (hl : hs.length ≤ 100000) (hn : n ≤ 1000) (hb : base ≤ w.heap.size) :
    Calls Try.prog 19 #[.pointer (some ⟨K, 0, none⟩), .slice A n c] w (LRowPost w ok base K hs ws ⟨A, n, c⟩) := by
  have hnx : n = xs.length := (Kd.R_reads' hfar).1
  subst hnx
  obtain ⟨ok', hok⟩ : ∃ ok' : Nat → Prop, ok' = fun k => ok k ∨ w.heap.size ≤ k := ⟨_, rfl⟩
  have hsub : ∀ k, ok' k → ok k ∨ w.heap.size ≤ k := fun k hk => by rw [hok] at hk; exact hk
  have hup : ∀ k, ok k → ok' k := fun k hk => by rw [hok]; exact .inl hk
  have HNEW : Hid (∀ k, w.heap.size ≤ k → ok' k) := Lib.hid (fun k hk => by rw [hok]; exact .inr hk)
  have HOK := Lib.hid hok
  have HSUB := Lib.hid hsub
  have HUP := Lib.hid hup
  have HST := Lib.hid (hst.mono hup)
  have HST0 := Lib.hid hst
  have HLATE := Lib.hid (hlate.mono hup)
  have HFAR := Lib.hid (R_flat flat36 (ok' := ok') hfar (fun _ _ => rfl) (fun k hk => hup k (hfar.1 k hk)))
  have HN1 := Lib.hid h1
  have HN2 := Lib.hid h2
  have HB := Lib.hid hb
  have HLL := Lib.hid hlate.len
  obtain ⟨c0, c1, c2, c3⟩ := cells4b hst.blk
  have hltK := hst.lt
  clear hok hsub hup hst hlate hfar h1 h2 hb
  go_enter Try.func19, Try.ntmps19
  go_upto_region 2 with (first | (at_builtin; refine far_append kH (W := w) base rfl (.tmp 13) (.tmp 15) 45 22 (.slice none 0 0) 24 rfl Try.underlying45 info22 rfl (by decide) (by decide) vm hs ⟨A, xs.length, c⟩ [.slice A xs.length c] ok' rfl rfl rfl HNEW.out HST.out.rm HB.out (by omega) ?_; intro v1 w1 hR1 hg1 hat1; obtain ⟨A1, k1, e1⟩ := Kd.R_slice hR1; rw [List.length_append, List.length_singleton] at e1; subst e1; have hb1 := blk_grown HST.out.blk hg1 (Ne.symm (row_ne HST.out.rm HST.out.blk (by decide))); have d1 := (cells4b hb1).2.1; have z1 := blk_frozen hb1 1; have HP := Lib.hid (HST.out.pushM hR1 hg1 (hat1.imp id (fun h => h.1))); clear hR1 hg1 hat1 hb1))
  obtain ⟨h1, h2⟩ := HP.out
  have H1 := Lib.hid h1
  have H2 := Lib.hid h2
  have H3 := Lib.hid (HLATE.out.state h2 ⟨_, HST.out.blk⟩ HST.out.rm)
  have H4 := Lib.hid (row_state HFAR.out h2 ⟨_, HST.out.blk⟩ HST.out.rm)
  clear c0 c1 c2 c3 d1 z1 HP hltK h1 h2
  generalize hW2 : w1.setCell ⟨K, 1, none⟩ (.slice A1 (hs.length + 1) k1) = W2 at *
  clear hW2
  have HW2 := Lib.hid H2.out.size
  obtain ⟨c0, c1, c2, c3⟩ := cells4b H1.out.blk
  have hltK := H1.out.lt
  obtain ⟨Aw, cw, evw⟩ := Kd.R_slice H1.out.rw_
  subst evw
  have HCAP := Lib.hid (Kd.R_reads' H4.out).2
  go_region_law (first | (refine rows_step k36 (W := W2.drew) base (by rfl) (.const (.slice none 0 0)) (.tmp 24) 22 36 zero36 32 (by rfl) Try.underlying22 info36 size36 (by decide) (by decide) flat36 (.slice none 0 0) [] xs A xs.length c (fun k => W2.heap.size ≤ k) (by rfl) (by rfl) (k36_KM base) (Kd.R_nil _ _ _ _ _) (by exact Kd.C_drew HCAP.out.2) (fun k hk => hk) (by have := HW2.out; have := HB.out; show base ≤ W2.heap.size; omega) (by simp; omega) ?_; intro v5 w5 hR5 hg5 hat5; rw [List.nil_append] at hR5; obtain ⟨A5, k5, e5⟩ := Kd.R_slice hR5; subst e5; have HG5 := Lib.hid hg5; have HR5 := Lib.hid hR5; have HT5 := Lib.hid hat5; have b5 := blk_grown (show W2.drew.heap[K]? = _ from H1.out.blk) hg5 (by simp [Value.ownBlock]); have c2 := (cells4b b5).2.2.1; have z5 := blk_frozen b5 2; have c2' := (cells4b (blk_alloc b5 (.cells #[.slice A5 xs.length k5] 22))).2.2.1; have B5 := Lib.hid b5; clear hR5 hg5 hat5 b5) | (refine app_step kH w5 base (by rfl) (.tmp 23) (.tmp 26) 45 22 (.slice none 0 0) 24 (by rfl) Try.underlying45 info22 (by rfl) (by decide) (by decide) (.slice Aw ws.length cw) ws ⟨A5, xs.length, k5⟩ [.slice A5 xs.length k5] (by rfl) ok' (by rfl) (by rfl) (by rfl) (fun k hk => HNEW.out k (by have := HW2.out; have := HG5.out.size; simp at this; omega)) (by exact Kd.R_grown2 (Kd.R_drew H1.out.rw_) rfl HG5.out (fun k hk => by simp [Value.ownBlock] at hk)) (by have := HW2.out; have := HB.out; have := HG5.out.size; simp at this; omega) (by have := HLL.out; omega) ?_; intro v6 w6 hR6 hg6 hat6; obtain ⟨A6, k6, e6⟩ := Kd.R_slice hR6; rw [List.length_append, List.length_singleton] at e6; subst e6; have HG6 := Lib.hid hg6; have HR6 := Lib.hid hR6; have HT6 := Lib.hid hat6; have b6 := blk_grown B5.out hg6 (Ne.symm (row_ne H1.out.rw_ H1.out.blk (by decide))); have d6 := (cells4b b6).2.2.1; have z6 := blk_frozen b6 2; clear hR6 hg6 hat6 b6))
  all_goals
    go_wp2_with fail
    go_end0
    exact lrow_end (x := ⟨A, xs.length, c⟩) (y := ⟨A5, xs.length, k5⟩) HOK.out hn ((Fr.mono H2.out (fun k hk => by
      rcases hk with rfl | hk
      · exact HST0.out.okK
      · exact HST0.out.rm.1 k hk.symm))) H1.out H3.out H4.out HN1.out HN2.out HG5.out HR5.out HG6.out HR6.out HT6.out
end Go.Proofs.Ytameoapnhmoleaa
set_option linter.unusedVariables false
set_option linter.unusedSimpArgs false
namespace Go.Proofs.Ytameoapnhmoleaa
open Go.RowKit Go.Proofs.YtameoapnhmoleaaW.PrintWords Go.Proofs.YtameoapnhmoleaaW.PrintLast Go.Proofs.YtameoapnhmoleaaW.PrintMore
open PP

theorem same_refl (A A' : Option Addr) (n n' c c' : Nat) (xs : List Mv) (w : World) (h : Kd.C k36 w A n xs) (hc : n ≤ c) (h' : Kd.C k36 w A' n' xs) (hc' : n' ≤ c') (hl : xs.length ≤ 1000000) :
    Calls Try.prog 13 #[.slice A n c, .slice A' n' c'] w fun e w' => e = .returned (.bool true) ∧ ∃ q, w' = w.drewN q := by
  obtain rfl := h.1
  obtain rfl := h'.1
  obtain ⟨k, hk⟩ := (same_ev xs hl).rounds
  exact (quernlaw13_sameMoves.calls k A c xs A' c' xs true w h hc h' hc' hk).mono fun e w' ⟨he, hd⟩ => ⟨he, hd.out⟩
set_option maxHeartbeats 4000000 in
theorem aswas_any (ok : Nat → Prop) (base K : Nat) (hs ws : List Hd) (vm vw : Value) (w : World) (hst : LKr w ok base K hs ws vm vw) (hlate : Late w ok base hs ws) (hl : hs.length ≤ 1000000) :
    Calls Try.prog 36 #[.pointer (some ⟨K, 0, none⟩)] w fun e w' => e = .returned (.bool true) ∧ ∃ q, w' = w.drewN q := by
  obtain ⟨Am, cm, evm⟩ := Kd.R_slice hst.rm
  subst evm
  obtain ⟨Aw, cw, evw⟩ := Kd.R_slice hst.rw_
  subst evw
  have HST := Lib.hid hst
  have HL := Lib.hid hlate
  obtain ⟨c0, c1, c2, c3⟩ := cells4b hst.blk
  clear hst hlate
  go_enter Try.func36, Try.ntmps36
  go_wp2_with fail
  go_loopw [3] (fun i wr => ∃ j : Nat, j ≤ hs.length ∧ i = .int .i64 j ∧ Hid (∃ q, wr = w.drewN q)) (fun i _ => hs.length - (intOf i).toNat)
  case atStart => exact ⟨0, by omega, rfl, Lib.hid ⟨0, rfl⟩⟩
  case round =>
    obtain ⟨j, hj, rfl, HQ⟩ := hrel
    by_cases hlt : j < hs.length
    · have hwl := HL.out.len
      obtain ⟨gm, cm', em, _⟩ := Kd.R_form HST.out.rm (by omega)
      injection em with em1 _ em3
      subst em1
      subst em3
      obtain ⟨gw, cw', ew, _⟩ := Kd.R_form HST.out.rw_ (by omega)
      injection ew with ew1 _ ew3
      subst ew1
      subst ew3
      have hm0 : wr.cell? ⟨gm, j, none⟩ = some (encH (hs.getD j zH)) := by obtain ⟨q, rfl⟩ := HQ.out; exact (kH_cell HST.out.rm j hlt).1
      have hw0 : wr.cell? ⟨gw, j, none⟩ = some (encH (ws.getD j zH)) := by obtain ⟨q, rfl⟩ := HQ.out; exact (kH_cell HST.out.rw_ j (by omega)).1
      obtain ⟨k0, k1, k2, k3⟩ : wr.cell? ⟨K, 0, none⟩ = some (.bool true) ∧ wr.cell? ⟨K, 1, none⟩ = some (.slice (some ⟨gm, 0, none⟩) hs.length cm) ∧ wr.cell? ⟨K, 2, none⟩ = some (.slice (some ⟨gw, 0, none⟩) ws.length cw) ∧ wr.cell? ⟨K, 3, none⟩ = some (.slice none 0 0) := by obtain ⟨q, rfl⟩ := HQ.out; exact cells4b HST.out.blk
      obtain ⟨xs, hxl, r1, r2⟩ := HL.out.ent j hlt
      generalize hs.getD j zH = x at *
      generalize ws.getD j zH = y at *
      obtain ⟨xa, xn, xc⟩ := x
      obtain ⟨ya, yn, yc⟩ := y
      unfold encH at hm0 hw0 r1 r2
      simp only at hm0 hw0 r1 r2
      obtain ⟨e1, l1, C1⟩ := Kd.R_reads' r1
      obtain ⟨e2, l2, C2⟩ := Kd.R_reads' r2
      rw [← e1] at C1
      rw [← e2] at C2
      have hji : (j : Int) < (hs.length : Int) := by omega
      have hjk : (j : Int) < (ws.length : Int) := by omega
      have C1 : Kd.C k36 wr xa xn xs := by obtain ⟨q, rfl⟩ := HQ.out; exact Kd.C_drewN C1 q
      have C2 : Kd.C k36 wr ya yn xs := by obtain ⟨q, rfl⟩ := HQ.out; exact Kd.C_drewN C2 q
      have H1 := Lib.hid (And.intro C1 (And.intro l1 (And.intro C2 l2)))
      clear r1 r2 e1 e2 l1 l2 C1 C2 hwl
      go_wp2_with fail
      go_quiet ((go_at_call 13; exact Calls.quiet_of (same_refl xa ya xn yn xc yc xs _ (Kd.C_drewN H1.out.1 _) H1.out.2.1 (Kd.C_drewN H1.out.2.2.1 _) H1.out.2.2.2 (by omega))))
      go_wp2_with fail
      go_roundw
      case rel => exact ⟨j + 1, by omega, by go_num, Lib.hid (by obtain ⟨q, rfl⟩ := HQ.out; exact ⟨q + nq, World.drewN_drewN ..⟩)⟩
      case measure => simp [intOf]; omega
    · have k1 : wr.cell? ⟨K, 1, none⟩ = some (.slice Am hs.length cm) := by obtain ⟨q, rfl⟩ := HQ.out; exact (cells4b HST.out.blk).2.1
      go_wp2_with fail
      go_ret
      exact ⟨rfl, HQ.out⟩
end Go.Proofs.Ytameoapnhmoleaa
