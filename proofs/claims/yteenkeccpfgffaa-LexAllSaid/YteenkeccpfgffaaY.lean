/- lend, kept (quernlaw2): a copy of bytes with marks behind it (chapter 2). -/
import Derived.Test.YteenkeccpfgffaaX
set_option linter.unusedVariables false
set_option linter.unusedSimpArgs false
namespace Go.Proofs.Yteenkeccpfgffaa
open Go.RowKit Go.Proofs.YteenkeccpfgffaaW.PrintWords Go.Proofs.YteenkeccpfgffaaW.PrintLast Go.Proofs.YteenkeccpfgffaaW.PrintMore

theorem info5k : (Try.prog.info? 5).map (fun i => (i.zero, i.size, i.bytes)) = some (some (.int .u8 0), 1, 1) := info5
theorem own_block {w : World} {base g m cap : Nat} {xs : List Int} (h : w.ownsRow base 5 1 (.slice (some ⟨g, 0, none⟩) m cap) m (nums .u8 xs)) :
    ∃ cur : Array Value, w.heap[g]? = some (.cells cur 5 (0, 0)) ∧ base ≤ g ∧ m ≤ cap ∧ cap ≤ 9223372036854775807 ∧ cur.size = cap ∧ ∀ j : Nat, j < m → cur[j]? = some (.int .u8 (rd xs j)) := by
  have hl : xs.length = m := by have := h.1; simp [nums] at this; exact this
  rcases h.2 with ⟨hv, _⟩ | ⟨g', cap', cur, hv, hb, hh, hnc, hcm, hcs, ht⟩
  · cases hv
  injection hv with ha _ hc
  injection ha with ha
  injection ha with hg
  subst hg; subst hc
  refine ⟨cur, hh, hb, hnc, hcm, by rw [hcs, Nat.mul_one], fun j hj => ?_⟩
  have h1 : (cur.toList.take (m * 1))[j]? = (nums .u8 xs)[j]? := by rw [ht]
  rw [List.getElem?_take, if_pos (by omega), Array.getElem?_toList] at h1
  rw [h1]
  simp [nums, rd, List.getD_eq_getElem?_getD, List.getElem?_eq_getElem (show j < xs.length by omega)]
def mk (i : Nat) : Int := wrap64 (167 + (i : Int)) % 256
/-- Block g holds l, and marks in all the room behind it. -/
def LendRow (W : World) (g K n : Nat) (l : List Int) : Prop :=
  ∃ cu : Array Value, W.heap[g]? = some (.cells cu 5 (0, 0)) ∧ cu.size = K ∧ n + 40 ≤ K ∧ K ≤ 9223372036854775807 ∧ (∀ j : Nat, j < n → cu[j]? = some (.int .u8 (rd l j))) ∧ ∀ j : Nat, n ≤ j → j < K → cu[j]? = some (.int .u8 (mk j))
theorem set_get {cu : Array Value} {k : Nat} {v : Value} (hk : k < cu.size) (j : Nat) : (cu.setIfInBounds k v)[j]? = if j = k then some v else cu[j]? := by
  rw [Array.getElem?_setIfInBounds]
  by_cases h : k = j
  · subst h; simp [hk]
  · rw [if_neg h, if_neg (Ne.symm h)]
set_option maxHeartbeats 4000000 in
theorem lend_any (A : Option Addr) (n c : Nat) (l : List Int) (w : World) (hnc : n ≤ c) (hr : ReadsInt w .u8 A n l) (hn : n ≤ 3000000000000) :
    Calls Try.prog 22 #[.slice A n c] w fun e w' => (∃ g K, e = .returned (.slice (some ⟨g, 0, none⟩) K K) ∧ LendRow w' g K n l ∧ w.heap.size ≤ g) ∧ Below w.heap.size w w' := by
  have hll := hr.1
  have HR := Lib.hid hr
  have HLL := Lib.hid hll
  clear hr hll
  go_enter Try.func22, Try.ntmps22
  go_wp2_with (at_builtin; refine stop_intro ?_)
  unfold Stop
  refine print_append_row (w0 := w) w.heap.size rfl (.const (.slice none 0 0)) (.tmp 6) 22 5 .u8 1 rfl Try.underlying22 info5k (by decide) _ [] l A n c rfl rfl (own_nil _ _ _ _) HR.out (Below.refl _ _) (Nat.le_refl _) ?len ?_
  case len => simp; omega
  intro v1 w1 hO hB hg hat
  rw [List.nil_append, HLL.out] at hO
  have HO := Lib.hid hO
  have HB := Lib.hid hB
  clear hO hB hg hat
  go_wp2
  go_loopw [3, 4] (fun v i wr => ∃ k : Nat, k ≤ 40 ∧ i = .int .i64 k ∧ Hid (wr.ownsRow w.heap.size 5 1 v (n + k) (nums .u8 (l ++ List.replicate k 0))) ∧ Hid (Below w.heap.size w wr)) (fun _ i _ => 40 - (intOf i).toNat)
  case atStart => exact ⟨0, by omega, rfl, by simpa using HO, HB⟩
  case round =>
    obtain ⟨k, hk, rfl, HO1, HB1⟩ := hrel
    by_cases hlt : k < 40
    · go_wp2_with (at_builtin; refine stop_intro ?_)
      unfold Stop
      have hlen : (l ++ List.replicate k (0 : Int)).length = n + k := by simp [HLL.out]
      refine print_append_num (w0 := w) w.heap.size rfl (.tmp 12) (.tmp 13) 22 5 .u8 1 rfl Try.underlying22 info5k (by decide) _ (l ++ List.replicate k 0) 0 rfl rfl (by rw [hlen]; exact HO1.out) HB1.out HB1.out.size ?len ?_
      case len => rw [hlen]; omega
      intro v2 w2 hO hB hg hat
      have HO2 := Lib.hid hO
      have HB2 := Lib.hid hB
      clear hO hB hg hat
      go_wp2
      go_roundw
      case rel => exact ⟨k + 1, by omega, by go_num, Lib.hid (by have h := HO2.out; rw [List.append_assoc, ← List.replicate_succ'] at h; simpa [HLL.out, Nat.add_assoc] using h), HB2⟩
      case measure => simp [intOf]; omega
    · obtain rfl : k = 40 := by omega
      obtain ⟨g, cap, rfl, hgb, hgl⟩ := HO1.out.form (by omega)
      obtain ⟨cur, hh, hgb2, hmc, hcm, hcs, hcur⟩ := own_block HO1.out
      have HH := Lib.hid hh
      have HCS := Lib.hid hcs
      have HCUR := Lib.hid hcur
      clear hh hcs hcur
      go_wp2
      go_loopw [5] (fun i wr => ∃ (k : Nat) (cu : Array Value), n ≤ k ∧ k ≤ cap ∧ i = .int .i64 k ∧ Hid (wr.heap[g]? = some (.cells cu 5 (0, 0))) ∧ Hid (cu.size = cap ∧ (∀ j : Nat, j < n → cu[j]? = some (.int .u8 (rd l j))) ∧ ∀ j : Nat, n ≤ j → j < k → cu[j]? = some (.int .u8 (mk j))) ∧ Hid (Below w.heap.size w wr)) (fun i _ => cap - (intOf i).toNat)
      case atStart =>
        refine ⟨n, cur, Nat.le_refl _, by omega, rfl, HH, Lib.hid ⟨HCS.out, fun j hj => ?_, fun j h1 h2 => by omega⟩, HB1⟩
        rw [HCUR.out j (by omega)]
        have : rd (l ++ List.replicate 40 (0 : Int)) j = rd l j := by
          have hjl : j < l.length := by rw [HLL.out]; exact hj
          simp [rd, List.getD_eq_getElem?_getD, List.getElem?_append_left hjl]
        rw [this]
      case round =>
        obtain ⟨k, cu, hnk, hkc, rfl, HC, HP, HB2⟩ := hrel
        by_cases hlt : k < cap
        · have hc0 := cell_of_row _ g k cu 5 (0, 0) HC.out
          rw [Array.getElem?_eq_getElem (by rw [HP.out.1]; exact hlt)] at hc0
          have hf0 := blk_frozen HC.out k
          go_wp2
          go_roundw
          case rel =>
            obtain ⟨p1, p2, p3⟩ := HP.out
            refine ⟨k + 1, _, by omega, by omega, by go_num, Lib.hid (heap_setCell_same _ _ _ _ _ _ HC.out), Lib.hid ⟨by simpa using p1, fun j hj => ?_, fun j h1 h2 => ?_⟩, Lib.hid (HB2.out.setCell hgb2 _)⟩
            · rw [set_get (by omega), if_neg (by omega)]; exact p2 j hj
            · rw [set_get (by omega)]
              by_cases h : j = k
              · rw [if_pos h, h]; rfl
              · rw [if_neg h]; exact p3 j h1 (by omega)
          case measure => simp [intOf]; omega
        · obtain rfl : k = cap := by omega
          go_wp2
          go_ret
          exact ⟨⟨g, k, rfl, ⟨cu, HC.out, HP.out.1, by omega, hcm, HP.out.2.1, HP.out.2.2⟩, hgb2⟩, HB2.out⟩
end Go.Proofs.Yteenkeccpfgffaa
