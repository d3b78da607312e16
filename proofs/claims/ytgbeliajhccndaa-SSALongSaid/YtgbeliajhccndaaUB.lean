/- Chapter 9: the walk of SSALong. -/
import Derived.Test.YtgbeliajhccndaaUA
set_option linter.unusedVariables false
set_option linter.unusedSimpArgs false
namespace Go.Proofs.Ytgbeliajhccndaa
open Go.RowKit Go.Proofs.YtgbeliajhccndaaW.PrintWords Go.Proofs.YtgbeliajhccndaaW.PrintLast Go.Proofs.YtgbeliajhccndaaW.PrintMore PP

def mainN : ByteArray := ⟨#[109, 97, 105, 110]⟩
def loVals : List S42 := [⟨1, 1, 7, []⟩, ⟨26, 0, 0, [0]⟩]
theorem vals_C {w : World} {gv ga : Nat} (hv : w.heap[gv]? = some (.cells #[.int .i64 1, .int .i64 1, .int .i64 7, .slice none 0 0, .int .i64 26, .int .i64 0, .int .i64 0, .slice (some ⟨ga, 0, none⟩) 1 1] 42 (0, 0))) (ha : RowI w ga [0]) : k42.C w (some ⟨gv, 0, none⟩) 2 loVals := by
  have ho : w.ownsRow 0 42 4 (.slice (some ⟨gv, 0, none⟩) 2 2) 2 [.int .i64 1, .int .i64 1, .int .i64 7, .slice none 0 0, .int .i64 26, .int .i64 0, .int .i64 0, .slice (some ⟨ga, 0, none⟩) 1 1] :=
    ⟨rfl, .inr ⟨gv, 2, _, rfl, Nat.zero_le _, hv, Nat.le_refl _, by unfold maxLen; omega, rfl, rfl⟩⟩
  have hr : Reps (k42.K w) 4 loVals [.int .i64 1, .int .i64 1, .int .i64 7, .slice none 0 0, .int .i64 26, .int .i64 0, .int .i64 0, .slice (some ⟨ga, 0, none⟩) 1 1] := by
    have h1 := (Reps.none (k42.K w) 4).snoc (p := (⟨1, 1, 7, []⟩ : S42)) (c := [.int .i64 1, .int .i64 1, .int .i64 7, .slice none 0 0]) (k42_mk w ⟨1, 1, 7, []⟩ (A3 := none) (c3 := 0) (Nat.le_refl _) ((HdR.nil w).C.2.2)) rfl
    exact h1.snoc (p := (⟨26, 0, 0, [0]⟩ : S42)) (c := [.int .i64 26, .int .i64 0, .int .i64 0, .slice (some ⟨ga, 0, none⟩) 1 1]) (k42_mk w ⟨26, 0, 0, [0]⟩ (A3 := some ⟨ga, 0, none⟩) (c3 := 1) (Nat.le_refl _) (ha.C (by simp))) rfl
  obtain ⟨A, c, e, h⟩ := own_reads_row ho hr rfl
  injection e with e _ _
  subst e
  exact h
theorem func_C {w : World} {g gv ga gB n cap : Nat} {hs : List BH} {bs : List S46} {base : Nat} (hb : w.heap[g]? = some (.cells #[.string mainN, .slice none 0 0, .int .i64 0, .slice (some ⟨gv, 0, none⟩) 2 2, .slice (some ⟨gB, 0, none⟩) n cap] 38 (0, 0)))
    (hv : w.heap[gv]? = some (.cells #[.int .i64 1, .int .i64 1, .int .i64 7, .slice none 0 0, .int .i64 26, .int .i64 0, .int .i64 0, .slice (some ⟨ga, 0, none⟩) 1 1] 42 (0, 0))) (ha : RowI w ga [0])
    (ho : w.ownsRow base 46 6 (.slice (some ⟨gB, 0, none⟩) n cap) n (hs.flatMap encB)) (hl : hs.length = bs.length) (hn : bs.length = n) (hnc : n ≤ cap) (hok : ∀ (i : Nat) (h : BH) (b : S46), hs[i]? = some h → bs[i]? = some b → BhOk w h b) :
    k38.C w (some ⟨g, 0, none⟩) 1 [⟨mainN, [], 0, loVals, bs⟩] := by
  have h1 : w.ownsRow 0 38 5 (.slice (some ⟨g, 0, none⟩) 1 1) 1 [.string mainN, .slice none 0 0, .int .i64 0, .slice (some ⟨gv, 0, none⟩) 2 2, .slice (some ⟨gB, 0, none⟩) n cap] :=
    ⟨rfl, .inr ⟨g, 1, _, rfl, Nat.zero_le _, hb, Nat.le_refl _, by unfold maxLen; omega, rfl, rfl⟩⟩
  obtain ⟨A, c, e, hC⟩ := blocks_C ho hl hn hok
  injection e with e _ _
  subst e
  subst hn
  have hr : Reps (k38.K w) 5 [(⟨mainN, [], 0, loVals, bs⟩ : S38)] [.string mainN, .slice none 0 0, .int .i64 0, .slice (some ⟨gv, 0, none⟩) 2 2, .slice (some ⟨gB, 0, none⟩) bs.length cap] :=
    (Reps.none (k38.K w) 5).snoc (c := [.string mainN, .slice none 0 0, .int .i64 0, .slice (some ⟨gv, 0, none⟩) 2 2, .slice (some ⟨gB, 0, none⟩) bs.length cap]) (k38_mk w ⟨mainN, [], 0, loVals, bs⟩ (A1 := none) (c1 := 0) (Nat.le_refl _) ((HdR.nil w).C.2.2) (A3 := some ⟨gv, 0, none⟩) (c3 := 2) (Nat.le_refl _) (vals_C hv ha) (A4 := some ⟨gB, 0, none⟩) (c4 := cap) hnc hC) rfl
  obtain ⟨A, c, e, h⟩ := own_reads_row h1 hr rfl
  injection e with e _ _
  subst e
  exact h
def chB (j : Nat) : S46 := ⟨[], [], ⟨1, -1, [(j : Int) + 1]⟩, if 0 < j then [(j : Int) - 1] else []⟩
def chain0 (m : Nat) : List S46 := (List.range m).map chB
def finB (m : Nat) (a c : List Int) : List S46 := ((chain0 m).set 0 ⟨[], a, ⟨1, -1, [1]⟩, []⟩).set (m - 1) ⟨[], c, ⟨3, -1, []⟩, [(m : Int) - 2]⟩
def longF (m : Nat) (a c : List Int) : S38 := ⟨mainN, [], 0, loVals, finB m a c⟩
section
variable {w wr W : World} {gf gv ga gB cap n : Nat} {hs : List BH} {bs : List S46}
theorem set_at {α : Type} {l : List α} {j : Nat} {x y : α} (hj : l[j]? = some x) : (l.set j y)[j]? = some y := by
  rw [List.getElem?_set, if_pos rfl, if_pos (List.getElem?_eq_some_iff.1 hj).1]
theorem LoW.body (h : LoW w wr gf gv ga (.slice (some ⟨gB, 0, none⟩) n cap) hs bs) (hn : hs.length = n) {j : Nat} {x : BH} {b : S46} (hj : hs[j]? = some x) (hb : bs[j]? = some b) {hd : Hd} {l : List Int} (hr : HdR wr hd l) :
    LoW w (wr.setCell ⟨gB, j * 6 + 1, none⟩ (encH hd)) gf gv ga (.slice (some ⟨gB, 0, none⟩) n cap) (hs.set j { x with bo := hd }) (bs.set j { b with f1 := l }) := by
  have hx := h.ok j x b hj hb
  exact h.put hn hj (by omega) rfl ⟨hx.ph, hr, hx.k, hx.v, hx.tt, hx.pr⟩
theorem LoW.lt (h : LoW w wr gf gv ga (.slice (some ⟨gB, 0, none⟩) n cap) hs bs) : gB < wr.heap.size := by
  obtain ⟨c, hc⟩ := own_typed h.own gB rfl
  exact blk_lt hc
theorem LoW.body2 (h : LoW w wr gf gv ga (.slice (some ⟨gB, 0, none⟩) n cap) hs bs) (hn : hs.length = n) {j : Nat} {x : BH} {b : S46} (hj : hs[j]? = some x) (hb : bs[j]? = some b) {l : List Int} (hl : l.length ≤ maxLen) :
    LoW w ((wr.setCell ⟨gB, j * 6 + 1, none⟩ (.slice (some ⟨wr.heap.size, 0, none⟩) l.length l.length)).alloc (.cells (nums .i64 l).toArray 3)) gf gv ga (.slice (some ⟨gB, 0, none⟩) n cap) (hs.set j { x with bo := ⟨some ⟨wr.heap.size, 0, none⟩, l.length, l.length⟩ }) (bs.set j { b with f1 := l }) := by
  have hL2 := (h.then_ (below_alloc (Below.refl _ _) (.cells (nums .i64 l).toArray 3))).body hn hj hb (HdR.row (l := l) (blk_new wr _) hl)
  rw [World.setCell_alloc_past _ _ _ _ h.lt] at hL2
  exact hL2
theorem LoW.term (h : LoW w wr gf gv ga (.slice (some ⟨gB, 0, none⟩) n cap) hs bs) (hn : hs.length = n) {j : Nat} {x : BH} {b : S46} (hj : hs[j]? = some x) (hb : bs[j]? = some b) (k v : Int) :
    LoW w (((wr.setCell ⟨gB, j * 6 + 2, none⟩ (.int .i64 k)).setCell ⟨gB, j * 6 + 3, none⟩ (.int .i64 v)).setCell ⟨gB, j * 6 + 4, none⟩ (.slice none 0 0)) gf gv ga (.slice (some ⟨gB, 0, none⟩) n cap) (hs.set j { x with k := k, v := v, tt := zH }) (bs.set j { b with f2 := ⟨k, v, []⟩ }) := by
  have hx := h.ok j x b hj hb
  have h1 := h.put hn (u := .int .i64 k) (x' := { x with k := k }) (b' := { b with f2 := ⟨k, b.f2.f1, b.f2.f2⟩ }) hj (i := 2) (by omega) rfl ⟨hx.ph, hx.bo, rfl, hx.v, hx.tt, hx.pr⟩
  have hx1 := h1.ok j _ _ (set_at hj) (set_at hb)
  have h2 := h1.put (by simp [hn]) (u := .int .i64 v) (x' := { x with k := k, v := v }) (b' := { b with f2 := ⟨k, v, b.f2.f2⟩ }) (set_at hj) (i := 3) (by omega) rfl ⟨hx1.ph, hx1.bo, rfl, rfl, hx1.tt, hx1.pr⟩
  rw [List.set_set, List.set_set] at h2
  have hx2 := h2.ok j _ _ (set_at hj) (set_at hb)
  have h3 := h2.put (by simp [hn]) (u := .slice none 0 0) (x' := { x with k := k, v := v, tt := zH }) (b' := { b with f2 := ⟨k, v, []⟩ }) (set_at hj) (i := 4) (by omega) rfl ⟨hx2.ph, hx2.bo, rfl, rfl, HdR.nil _, hx2.pr⟩
  rw [List.set_set, List.set_set] at h3
  exact h3
end
theorem check_at {w W : World} {gf gv ga gB gF n cap : Nat} {hs : List BH} {bs : List S46} {r : Int} (h : LoW w W gf gv ga (.slice (some ⟨gB, 0, none⟩) n cap) hs bs) (hn : hs.length = n) (hc : n ≤ cap) (hF : W.heap[gF]? = some (.cells #[.string mainN, .slice none 0 0, .int .i64 0, .slice (some ⟨gv, 0, none⟩) 2 2, .slice (some ⟨gB, 0, none⟩) n cap] 38 (0, 0)))
    (hE : checkE [⟨mainN, [], 0, loVals, bs⟩] 0 = r) (hfit : n ≤ 400000) :
    Calls Try.prog 12 #[.agg #[.slice (some ⟨gF, 0, none⟩) 1 1, .int .i64 0]] W fun e w' => e = .returned (.int .i64 r) ∧ Below W.heap.size W w' := by
  have ho := h.own
  rw [hn] at ho
  have hC := func_C hF h.vb h.ab ho h.len (by rw [← h.len]; exact hn) hc h.ok
  refine ssa_Check.calls (some ⟨gF, 0, none⟩) 1 [⟨mainN, [], 0, loVals, bs⟩] 0 r W hC (Nat.le_refl _) ?_
  unfold ssa_Check.f
  rw [if_pos, hE]
  have hbl : bs.length = n := by rw [← h.len]; exact hn
  simp [fitF, mainN, hbl, hfit]
  decide
theorem fin_0 (m : Nat) (hm : 2 ≤ m) (a c : List Int) : (finB m a c)[0]? = some ⟨[], a, ⟨1, -1, [1]⟩, []⟩ := by
  unfold finB
  rw [List.getElem?_set, if_neg (by omega), List.getElem?_set, if_pos rfl, if_pos (by simp [chain0]; omega)]
theorem fin_z (m : Nat) (hm : 2 ≤ m) (a c : List Int) : (finB m a c)[m - 1]? = some ⟨[], c, ⟨3, -1, []⟩, [(m : Int) - 2]⟩ := by
  unfold finB
  rw [List.getElem?_set, if_pos rfl, if_pos (by simp [chain0]; omega)]
theorem fin_set0 (m : Nat) (hm : 2 ≤ m) (a a' c : List Int) : (finB m a c).set 0 ⟨[], a', ⟨1, -1, [1]⟩, []⟩ = finB m a' c := by
  unfold finB
  rw [List.set_comm _ _ (by omega), List.set_set]
theorem fin_setz (m : Nat) (a c c' : List Int) : (finB m a c).set (m - 1) ⟨[], c', ⟨3, -1, []⟩, [(m : Int) - 2]⟩ = finB m a c' := by
  unfold finB
  rw [List.set_set]
theorem far46 {w W : World} {gf gv ga gB n cap : Nat} {hs : List BH} {bs : List S46} (h : LoW w W gf gv ga (.slice (some ⟨gB, 0, none⟩) n cap) hs bs) {k t : Nat} {cs : Array Value} (hk : W.heap[k]? = some (.cells cs t (0, 0))) (ht : t ≠ 46) (i : Nat) (u : Value) : (W.setCell ⟨gB, i, none⟩ u).heap[k]? = some (.cells cs t (0, 0)) :=
  blk_far hk (fun e => own46_ne h.own hk ht (by rw [e]; rfl)) u
set_option maxRecDepth 100000 in
set_option maxHeartbeats 8000000 in
theorem SSALong_any (many : Int) (w : World) (h1 : -9223372036854775808 ≤ many) (h2 : many ≤ 9223372036854775807) (hE : ∀ m : Nat, 2 ≤ m → m ≤ 1000 → checkE [longF m [0] [1]] 0 = 0 ∧ checkE [longF m [] [0, 1]] 0 = 0 ∧ checkE [longF m [] [1, 0]] 0 = 96) :
    Calls Try.prog 7 #[.int .i64 many] w fun e w' => e = .returned (.bool true) ∧ Below w.heap.size w w' := by
  have HE := Lib.hid hE
  have HLV := Lib.hid alive_any
  clear hE
  by_cases hs : many < 2 ∨ 1000 < many
  · have g1 : decide (many < 2) = decide (many < 2) := rfl
    rcases hs with hs | hs
    · go_enter Try.func7, Try.ntmps7
      go_wp2_with (first | (go_at_call 9; with_reducible refine Calls.mono (HLV.out _) ?_; rintro e w1 ⟨rfl, hb1⟩) | (go_at_call 9; refine stop_intro ?_))
      go_ret
      exact ⟨rfl, hb1⟩
    · have hn : ¬ many < 2 := by omega
      go_enter Try.func7, Try.ntmps7
      go_wp2_with (first | (go_at_call 9; with_reducible refine Calls.mono (HLV.out _) ?_; rintro e w1 ⟨rfl, hb1⟩) | (go_at_call 9; refine stop_intro ?_))
      go_ret
      exact ⟨rfl, hb1⟩
  · obtain ⟨m, rfl⟩ : ∃ m : Nat, many = (m : Int) := ⟨many.toNat, by omega⟩
    have hm2 : 2 ≤ m := by omega
    have hm1000 : m ≤ 1000 := by omega
    have HX := Lib.hid (HE.out m hm2 hm1000)
    have HM := Lib.hid hm2
    clear hs h1 h2
    go_enter Try.func7, Try.ntmps7
    go_wp2_with (first | (go_at_call 9; with_reducible refine Calls.mono (HLV.out _) ?_; rintro e w1 ⟨rfl, hb1⟩; have HB1 := Lib.hid hb1; clear hb1) | (go_at_call 9; refine stop_intro ?_))
    have hb0 : Below w1.heap.size w1 (((w1.alloc (Obj.cells #[Value.int IntKind.i64 0] 3)).alloc (Obj.cells #[Value.int IntKind.i64 1, Value.int IntKind.i64 1, Value.int IntKind.i64 7, Value.slice none 0 0, Value.int IntKind.i64 26, Value.int IntKind.i64 0, Value.int IntKind.i64 0, Value.slice (some { block := w1.heap.size, off := 0 }) 1 1] 42)).alloc (Obj.cells #[Value.string { data := #[109, 97, 105, 110] }, Value.slice none 0 0, Value.int IntKind.i64 0, Value.slice (some { block := w1.heap.size + 1, off := 0 }) 2 2, Value.slice none 0 0] 38)) := below_alloc (below_alloc (below_alloc (Below.refl _ _) _) _) _
    have hs2 : (w1.alloc (Obj.cells #[Value.int IntKind.i64 0] 3)).heap.size = w1.heap.size + 1 := size_alloc' _ _
    have HL0 : Hid (LoW w1 (((w1.alloc (Obj.cells #[Value.int IntKind.i64 0] 3)).alloc (Obj.cells #[Value.int IntKind.i64 1, Value.int IntKind.i64 1, Value.int IntKind.i64 7, Value.slice none 0 0, Value.int IntKind.i64 26, Value.int IntKind.i64 0, Value.int IntKind.i64 0, Value.slice (some { block := w1.heap.size, off := 0 }) 1 1] 42)).alloc (Obj.cells #[Value.string { data := #[109, 97, 105, 110] }, Value.slice none 0 0, Value.int IntKind.i64 0, Value.slice (some { block := w1.heap.size + 1, off := 0 }) 2 2, Value.slice none 0 0] 38)) (w1.heap.size + 1 + 1) (w1.heap.size + 1) w1.heap.size (.slice none 0 0) [] (chain0 0)) := Lib.hid ⟨hb0, by
        have := blk_new ((w1.alloc (Obj.cells #[Value.int IntKind.i64 0] 3)).alloc (Obj.cells #[Value.int IntKind.i64 1, Value.int IntKind.i64 1, Value.int IntKind.i64 7, Value.slice none 0 0, Value.int IntKind.i64 26, Value.int IntKind.i64 0, Value.int IntKind.i64 0, Value.slice (some { block := w1.heap.size, off := 0 }) 1 1] 42)) (Obj.cells #[Value.string { data := #[109, 97, 105, 110] }, Value.slice none 0 0, Value.int IntKind.i64 0, Value.slice (some { block := w1.heap.size + 1, off := 0 }) 2 2, Value.slice none 0 0] 38)
        rw [size_alloc', hs2] at this
        exact this, by
        have := blk_new (w1.alloc (Obj.cells #[Value.int IntKind.i64 0] 3)) (Obj.cells #[Value.int IntKind.i64 1, Value.int IntKind.i64 1, Value.int IntKind.i64 7, Value.slice none 0 0, Value.int IntKind.i64 26, Value.int IntKind.i64 0, Value.int IntKind.i64 0, Value.slice (some { block := w1.heap.size, off := 0 }) 1 1] 42)
        rw [hs2] at this
        exact blkB (below_alloc (Below.refl _ _) _) this, RowI.below (w := w1.alloc (Obj.cells #[Value.int IntKind.i64 0] 3)) (blk_new w1 _) (below_alloc (below_alloc (Below.refl _ _) _) _), own_nil _ _ _ _, rfl, fun i h b hh _ => by simp at hh, by omega⟩
    clear hs2 hb0
    generalize hgf : w1.heap.size + 1 + 1 = gf at *
    generalize hgv : w1.heap.size + 1 = gv at *
    generalize hga : w1.heap.size = ga at *
    have HGA := Lib.hid hga
    clear hgf hgv hga
    go_loopg [5, 6] m (fun k v5 _ wr => ∃ (i : Nat) (v : Value) (hs : List BH), i ≤ m ∧ v5 = .int .i64 i ∧ Hid (i + k = m) ∧ Hid (hs.length = i) ∧ Hid (LoW w1 wr gf gv ga v hs (chain0 i)))
    case atStart => exact ⟨0, _, [], by omega, rfl, Lib.hid (by omega), Lib.hid rfl, HL0⟩
    case round =>
      clear HL0
      obtain ⟨i, v, hs, hi, rfl, HI, HH, HL⟩ := hrel
      by_cases hlt : i < m
      · have cf : wr.cell? ⟨gf, 4, none⟩ = some v := (blk_cell HL.out.fb 4).trans rfl
        have ff : wr.frozen? ⟨gf, 4, none⟩ = false := blk_frozen HL.out.fb 4
        have HGL := Lib.hid (blk_lt HL.out.fb)
        have HHL := HH
        by_cases hi0 : i = 0
        · subst hi0
          go_upto_region 11 with (fail)
          have hbel : Below wr.heap.size wr ((wr.alloc (.cells #[.int .i64 1] 3)).alloc (.cells #[.slice none 0 0, .slice none 0 0, .int .i64 1, .int .i64 (-1), .slice (some ⟨wr.heap.size, 0, none⟩) 1 1, .slice none 0 0] 46)) := below_alloc (below_alloc (Below.refl _ _) _) _
          have hrowA : RowI ((wr.alloc (.cells #[.int .i64 1] 3)).alloc (.cells #[.slice none 0 0, .slice none 0 0, .int .i64 1, .int .i64 (-1), .slice (some ⟨wr.heap.size, 0, none⟩) 1 1, .slice none 0 0] 46)) wr.heap.size [1] := RowI.below (w := wr.alloc (.cells #[.int .i64 1] 3)) (blk_new wr _) (below_alloc (Below.refl _ _) _)
          have hblk : ((wr.alloc (.cells #[.int .i64 1] 3)).alloc (.cells #[.slice none 0 0, .slice none 0 0, .int .i64 1, .int .i64 (-1), .slice (some ⟨wr.heap.size, 0, none⟩) 1 1, .slice none 0 0] 46)).heap[wr.heap.size + 1]? = some (.cells #[.slice none 0 0, .slice none 0 0, .int .i64 1, .int .i64 (-1), .slice (some ⟨wr.heap.size, 0, none⟩) 1 1, .slice none 0 0] 46 (0, 0)) := by
            have := blk_new (wr.alloc (.cells #[.int .i64 1] 3)) (.cells #[.slice none 0 0, .slice none 0 0, .int .i64 1, .int .i64 (-1), .slice (some ⟨wr.heap.size, 0, none⟩) 1 1, .slice none 0 0] 46)
            rw [size_alloc'] at this
            exact this
          have hokB : BhOk ((wr.alloc (.cells #[.int .i64 1] 3)).alloc (.cells #[.slice none 0 0, .slice none 0 0, .int .i64 1, .int .i64 (-1), .slice (some ⟨wr.heap.size, 0, none⟩) 1 1, .slice none 0 0] 46)) (⟨zH, zH, 1, -1, ⟨some ⟨wr.heap.size, 0, none⟩, 1, 1⟩, zH⟩ : BH) (⟨[], [], ⟨1, -1, [1]⟩, []⟩ : S46) := ⟨HdR.nil _, HdR.nil _, rfl, rfl, HdR.row (l := [1]) hrowA (by unfold maxLen; simp), HdR.nil _⟩
          have hLa := HL.out.then_ hbel
          obtain ⟨wa, hwa⟩ : ∃ wa, wa = (wr.alloc (.cells #[.int .i64 1] 3)).alloc (.cells #[.slice none 0 0, .slice none 0 0, .int .i64 1, .int .i64 (-1), .slice (some ⟨wr.heap.size, 0, none⟩) 1 1, .slice none 0 0] 46) := ⟨_, rfl⟩
          rw [← hwa] at hbel hrowA hblk hokB hLa ⊢
          have cfa : wa.cell? ⟨gf, 4, none⟩ = some v := (blk_cell hLa.fb 4).trans rfl
          have e0 : wa.cell? ⟨wr.heap.size + 1, 0, none⟩ = some (.slice none 0 0) := (blk_cell hblk 0).trans rfl
          have e1 : wa.cell? ⟨wr.heap.size + 1, 1, none⟩ = some (.slice none 0 0) := (blk_cell hblk 1).trans rfl
          have e2 : wa.cell? ⟨wr.heap.size + 1, 2, none⟩ = some (.int .i64 1) := (blk_cell hblk 2).trans rfl
          have e3 : wa.cell? ⟨wr.heap.size + 1, 3, none⟩ = some (.int .i64 (-1)) := (blk_cell hblk 3).trans rfl
          have e4 : wa.cell? ⟨wr.heap.size + 1, 4, none⟩ = some (.slice (some ⟨wr.heap.size, 0, none⟩) 1 1) := (blk_cell hblk 4).trans rfl
          have e5 : wa.cell? ⟨wr.heap.size + 1, 5, none⟩ = some (.slice none 0 0) := (blk_cell hblk 5).trans rfl
          have HLA := Lib.hid hLa
          have HOK := Lib.hid hokB
          clear hwa hbel hrowA hblk hokB hLa cf ff
          go_wp2_with (at_builtin; refine stop_intro ?_)
          unfold Stop
          refine print_append_cells (w0 := w1) (W := wa) w1.heap.size rfl (.tmp 40) (.tmp 42) 36 46 (.agg #[(.slice none 0 0), (.slice none 0 0), (.int .i64 0), (.int .i64 0), (.slice none 0 0), (.slice none 0 0)]) 6 112 rfl Try.underlying36 info46 rfl (by decide) (by decide) v hs.length (hs.flatMap encB) [.slice none 0 0, .slice none 0 0, .int .i64 1, .int .i64 (-1), .slice (some ⟨wr.heap.size, 0, none⟩) 1 1, .slice none 0 0] rfl rfl rfl (by simp [Value.oneCell']) HLA.out.own HLA.out.below HLA.out.below.size ?len ?_
          case len => have := HH.out; omega
          intro v1 w4 hV4 hB4 hg4 hat4
          obtain ⟨A9, c9, hv9⟩ := own_slice hV4
          subst hv9
          have hfb4 := HLA.out.grown_f hg4
          have cf4 : w4.cell? ⟨gf, 4, none⟩ = some v := (blk_cell hfb4 4).trans rfl
          have ff4 : w4.frozen? ⟨gf, 4, none⟩ = false := blk_frozen hfb4 4
          have HL4 : Hid (LoW w1 (w4.setCell ⟨gf, 4, none⟩ (.slice A9 (hs.length + 1) c9)) gf gv ga (.slice A9 (hs.length + 1) c9) (hs ++ [(⟨zH, zH, 1, -1, ⟨some ⟨wr.heap.size, 0, none⟩, 1, 1⟩, zH⟩ : BH)]) (chain0 0 ++ [(⟨[], [], ⟨1, -1, [1]⟩, []⟩ : S46)])) := Lib.hid (HLA.out.app (hn := (⟨zH, zH, 1, -1, ⟨some ⟨wr.heap.size, 0, none⟩, 1, 1⟩, zH⟩ : BH)) hV4 hg4 HOK.out)
          have HCH : Hid (chain0 0 ++ [(⟨[], [], ⟨1, -1, [1]⟩, []⟩ : S46)] = chain0 (0 + 1)) := Lib.hid (by
            unfold chain0
            rw [List.range_succ, List.map_append, List.map_singleton]
            unfold chB
            simp)
          rw [HCH.out] at HL4
          clear hfb4 hV4 hB4 hg4 hat4 cfa e0 e1 e2 e3 e4 e5
          go_wp2
          go_roundg (gk - 1)
          case measure => have := HI.out; omega
          case rel => exact ⟨0 + 1, _, hs ++ [(⟨zH, zH, 1, -1, ⟨some ⟨wr.heap.size, 0, none⟩, 1, 1⟩, zH⟩ : BH)], by omega, by go_num, Lib.hid (by have := HI.out; omega), Lib.hid (by have := HH.out; rw [List.length_append, List.length_singleton]; omega), HL4⟩
        · have hi1 : 0 < i := by omega
          go_upto_region 11 with (fail)
          have hbel : Below wr.heap.size wr (((wr.alloc (.cells #[.int .i64 ((i : Int) + 1)] 3)).alloc (.cells #[.slice none 0 0, .slice none 0 0, .int .i64 1, .int .i64 (-1), .slice (some ⟨wr.heap.size, 0, none⟩) 1 1, .slice (some ⟨wr.heap.size + 1 + 1, 0, none⟩) 1 1] 46)).alloc (.cells #[.int .i64 ((i : Int) - 1)] 3)) := below_alloc (below_alloc (below_alloc (Below.refl _ _) _) _) _
          have hrowC : RowI (((wr.alloc (.cells #[.int .i64 ((i : Int) + 1)] 3)).alloc (.cells #[.slice none 0 0, .slice none 0 0, .int .i64 1, .int .i64 (-1), .slice (some ⟨wr.heap.size, 0, none⟩) 1 1, .slice (some ⟨wr.heap.size + 1 + 1, 0, none⟩) 1 1] 46)).alloc (.cells #[.int .i64 ((i : Int) - 1)] 3)) (wr.heap.size + 1 + 1) [(i : Int) - 1] := by
            have := blk_new ((wr.alloc (.cells #[.int .i64 ((i : Int) + 1)] 3)).alloc (.cells #[.slice none 0 0, .slice none 0 0, .int .i64 1, .int .i64 (-1), .slice (some ⟨wr.heap.size, 0, none⟩) 1 1, .slice (some ⟨wr.heap.size + 1 + 1, 0, none⟩) 1 1] 46)) (.cells #[.int .i64 ((i : Int) - 1)] 3)
            rw [size_alloc', size_alloc'] at this
            exact this
          have hrowA : RowI (((wr.alloc (.cells #[.int .i64 ((i : Int) + 1)] 3)).alloc (.cells #[.slice none 0 0, .slice none 0 0, .int .i64 1, .int .i64 (-1), .slice (some ⟨wr.heap.size, 0, none⟩) 1 1, .slice (some ⟨wr.heap.size + 1 + 1, 0, none⟩) 1 1] 46)).alloc (.cells #[.int .i64 ((i : Int) - 1)] 3)) wr.heap.size [(i : Int) + 1] := RowI.below (w := wr.alloc (.cells #[.int .i64 ((i : Int) + 1)] 3)) (blk_new wr _) (below_alloc (below_alloc (Below.refl _ _) _) _)
          have hblk : (((wr.alloc (.cells #[.int .i64 ((i : Int) + 1)] 3)).alloc (.cells #[.slice none 0 0, .slice none 0 0, .int .i64 1, .int .i64 (-1), .slice (some ⟨wr.heap.size, 0, none⟩) 1 1, .slice (some ⟨wr.heap.size + 1 + 1, 0, none⟩) 1 1] 46)).alloc (.cells #[.int .i64 ((i : Int) - 1)] 3)).heap[wr.heap.size + 1]? = some (.cells #[.slice none 0 0, .slice none 0 0, .int .i64 1, .int .i64 (-1), .slice (some ⟨wr.heap.size, 0, none⟩) 1 1, .slice (some ⟨wr.heap.size + 1 + 1, 0, none⟩) 1 1] 46 (0, 0)) := by
            have h1 := blk_new (wr.alloc (.cells #[.int .i64 ((i : Int) + 1)] 3)) (.cells #[.slice none 0 0, .slice none 0 0, .int .i64 1, .int .i64 (-1), .slice (some ⟨wr.heap.size, 0, none⟩) 1 1, .slice (some ⟨wr.heap.size + 1 + 1, 0, none⟩) 1 1] 46)
            rw [size_alloc'] at h1
            exact blkB (below_alloc (Below.refl _ _) (.cells #[.int .i64 ((i : Int) - 1)] 3)) h1
          have hokB : BhOk (((wr.alloc (.cells #[.int .i64 ((i : Int) + 1)] 3)).alloc (.cells #[.slice none 0 0, .slice none 0 0, .int .i64 1, .int .i64 (-1), .slice (some ⟨wr.heap.size, 0, none⟩) 1 1, .slice (some ⟨wr.heap.size + 1 + 1, 0, none⟩) 1 1] 46)).alloc (.cells #[.int .i64 ((i : Int) - 1)] 3)) (⟨zH, zH, 1, -1, ⟨some ⟨wr.heap.size, 0, none⟩, 1, 1⟩, ⟨some ⟨wr.heap.size + 1 + 1, 0, none⟩, 1, 1⟩⟩ : BH) (⟨[], [], ⟨1, -1, [(i : Int) + 1]⟩, [(i : Int) - 1]⟩ : S46) := ⟨HdR.nil _, HdR.nil _, rfl, rfl, HdR.row (l := [(i : Int) + 1]) hrowA (by unfold maxLen; simp), HdR.row (l := [(i : Int) - 1]) hrowC (by unfold maxLen; simp)⟩
          have hLa := HL.out.then_ hbel
          obtain ⟨wa, hwa⟩ : ∃ wa, wa = ((wr.alloc (.cells #[.int .i64 ((i : Int) + 1)] 3)).alloc (.cells #[.slice none 0 0, .slice none 0 0, .int .i64 1, .int .i64 (-1), .slice (some ⟨wr.heap.size, 0, none⟩) 1 1, .slice (some ⟨wr.heap.size + 1 + 1, 0, none⟩) 1 1] 46)).alloc (.cells #[.int .i64 ((i : Int) - 1)] 3) := ⟨_, rfl⟩
          rw [← hwa] at hbel hrowA hblk hokB hLa ⊢
          have cfa : wa.cell? ⟨gf, 4, none⟩ = some v := (blk_cell hLa.fb 4).trans rfl
          have e0 : wa.cell? ⟨wr.heap.size + 1, 0, none⟩ = some (.slice none 0 0) := (blk_cell hblk 0).trans rfl
          have e1 : wa.cell? ⟨wr.heap.size + 1, 1, none⟩ = some (.slice none 0 0) := (blk_cell hblk 1).trans rfl
          have e2 : wa.cell? ⟨wr.heap.size + 1, 2, none⟩ = some (.int .i64 1) := (blk_cell hblk 2).trans rfl
          have e3 : wa.cell? ⟨wr.heap.size + 1, 3, none⟩ = some (.int .i64 (-1)) := (blk_cell hblk 3).trans rfl
          have e4 : wa.cell? ⟨wr.heap.size + 1, 4, none⟩ = some (.slice (some ⟨wr.heap.size, 0, none⟩) 1 1) := (blk_cell hblk 4).trans rfl
          have e5 : wa.cell? ⟨wr.heap.size + 1, 5, none⟩ = some (.slice (some ⟨wr.heap.size + 1 + 1, 0, none⟩) 1 1) := (blk_cell hblk 5).trans rfl
          have HLA := Lib.hid hLa
          have HOK := Lib.hid hokB
          clear hwa hbel hrowA hblk hokB hLa hrowC cf ff
          go_wp2_with (at_builtin; refine stop_intro ?_)
          unfold Stop
          refine print_append_cells (w0 := w1) (W := wa) w1.heap.size rfl (.tmp 40) (.tmp 42) 36 46 (.agg #[(.slice none 0 0), (.slice none 0 0), (.int .i64 0), (.int .i64 0), (.slice none 0 0), (.slice none 0 0)]) 6 112 rfl Try.underlying36 info46 rfl (by decide) (by decide) v hs.length (hs.flatMap encB) [.slice none 0 0, .slice none 0 0, .int .i64 1, .int .i64 (-1), .slice (some ⟨wr.heap.size, 0, none⟩) 1 1, .slice (some ⟨wr.heap.size + 1 + 1, 0, none⟩) 1 1] rfl rfl rfl (by simp [Value.oneCell']) HLA.out.own HLA.out.below HLA.out.below.size ?len ?_
          case len => have := HH.out; omega
          intro v1 w4 hV4 hB4 hg4 hat4
          obtain ⟨A9, c9, hv9⟩ := own_slice hV4
          subst hv9
          have hfb4 := HLA.out.grown_f hg4
          have cf4 : w4.cell? ⟨gf, 4, none⟩ = some v := (blk_cell hfb4 4).trans rfl
          have ff4 : w4.frozen? ⟨gf, 4, none⟩ = false := blk_frozen hfb4 4
          have HL4 : Hid (LoW w1 (w4.setCell ⟨gf, 4, none⟩ (.slice A9 (hs.length + 1) c9)) gf gv ga (.slice A9 (hs.length + 1) c9) (hs ++ [(⟨zH, zH, 1, -1, ⟨some ⟨wr.heap.size, 0, none⟩, 1, 1⟩, ⟨some ⟨wr.heap.size + 1 + 1, 0, none⟩, 1, 1⟩⟩ : BH)]) (chain0 i ++ [(⟨[], [], ⟨1, -1, [(i : Int) + 1]⟩, [(i : Int) - 1]⟩ : S46)])) := Lib.hid (HLA.out.app (hn := (⟨zH, zH, 1, -1, ⟨some ⟨wr.heap.size, 0, none⟩, 1, 1⟩, ⟨some ⟨wr.heap.size + 1 + 1, 0, none⟩, 1, 1⟩⟩ : BH)) hV4 hg4 HOK.out)
          have HCH : Hid (chain0 i ++ [(⟨[], [], ⟨1, -1, [(i : Int) + 1]⟩, [(i : Int) - 1]⟩ : S46)] = chain0 (i + 1)) := Lib.hid (by
            unfold chain0
            rw [List.range_succ, List.map_append, List.map_singleton]
            unfold chB
            rw [if_pos hi1])
          rw [HCH.out] at HL4
          clear hfb4 hV4 hB4 hg4 hat4 cfa e0 e1 e2 e3 e4 e5
          go_wp2
          go_roundg (gk - 1)
          case measure => have := HI.out; omega
          case rel => exact ⟨i + 1, _, hs ++ [(⟨zH, zH, 1, -1, ⟨some ⟨wr.heap.size, 0, none⟩, 1, 1⟩, ⟨some ⟨wr.heap.size + 1 + 1, 0, none⟩, 1, 1⟩⟩ : BH)], by omega, by go_num, Lib.hid (by have := HI.out; omega), Lib.hid (by have := HH.out; rw [List.length_append, List.length_singleton]; omega), HL4⟩
      · have him : m = i := by omega
        subst him
        obtain ⟨gB, cap, hv, hcap, hgb, hgs, hmax⟩ := own_form HL.out.own (by have := HH.out; omega)
        rw [HH.out] at hv hcap
        subst hv
        obtain ⟨h0, hh0⟩ : ∃ h0, hs[0]? = some h0 := ⟨_, List.getElem?_eq_getElem (by have := HH.out; omega)⟩
        obtain ⟨hz, hhz⟩ : ∃ hz, hs[m - 1]? = some hz := ⟨_, List.getElem?_eq_getElem (by have := HH.out; omega)⟩
        have H0 := Lib.hid hh0
        have HZ := Lib.hid hhz
        have cf : wr.cell? ⟨gf, 4, none⟩ = some (.slice (some ⟨gB, 0, none⟩) m cap) := (blk_cell HL.out.fb 4).trans rfl
        clear hh0 hhz hgb hmax
        obtain ⟨q1, f1⟩ := HL.out.cell HH.out H0.out (i := 1) (by omega) rfl
        rw [show 0 * 6 + 1 = 1 from rfl] at q1 f1
        go_upto_region 13 with (fail)
        obtain ⟨b0, hb0⟩ : ∃ b0, (chain0 m)[0]? = some b0 := ⟨_, List.getElem?_eq_getElem (by rw [← HL.out.len, HH.out]; omega)⟩
        have HB0 := Lib.hid hb0
        have hL2 := HL.out.body2 HH.out H0.out hb0 (l := [0]) (by unfold maxLen; simp)
        rw [show 0 * 6 + 1 = 1 from rfl] at hL2
        obtain ⟨wa, hwa⟩ : ∃ wa, wa = (wr.setCell ⟨gB, 1, none⟩ (.slice (some ⟨wr.heap.size, 0, none⟩) 1 1)).alloc (.cells #[.int .i64 0] 3) := ⟨_, rfl⟩
        obtain ⟨hs2, hhs2⟩ : ∃ hs2, hs2 = hs.set 0 { h0 with bo := ⟨some ⟨wr.heap.size, 0, none⟩, 1, 1⟩ } := ⟨_, rfl⟩
        obtain ⟨bs2, hbs2⟩ : ∃ bs2, bs2 = (chain0 m).set 0 { b0 with f1 := [0] } := ⟨_, rfl⟩
        have HL2 : Hid (LoW w1 wa gf gv ga (.slice (some ⟨gB, 0, none⟩) m cap) hs2 bs2) := Lib.hid (by rw [hwa, hhs2, hbs2]; exact hL2)
        have HN2 : Hid (hs2.length = m) := Lib.hid (by rw [hhs2, List.length_set]; exact HH.out)
        have HZ2 : Hid (hs2[m - 1]? = some hz) := Lib.hid (by rw [hhs2, List.getElem?_set, if_neg (by omega)]; exact HZ.out)
        have HS2 := Lib.hid hbs2
        have HH2 := Lib.hid hhs2
        rw [← hwa]
        clear hwa hL2 cf q1 f1 hb0 hhs2 hbs2
        obtain ⟨q1, f1⟩ := HL2.out.cell HN2.out HZ2.out (i := 1) (by omega) rfl
        have cf : wa.cell? ⟨gf, 4, none⟩ = some (.slice (some ⟨gB, 0, none⟩) m cap) := (blk_cell HL2.out.fb 4).trans rfl
        have hgs2 := HL2.out.lt
        go_upto_region 14 with (fail)
        obtain ⟨bz, hbz⟩ : ∃ bz, bs2[m - 1]? = some bz := ⟨_, List.getElem?_eq_getElem (by rw [← HL2.out.len, HN2.out]; omega)⟩
        have HBZ := Lib.hid hbz
        have hL3 := HL2.out.body2 HN2.out HZ2.out hbz (l := [1]) (by unfold maxLen; simp)
        obtain ⟨wb, hwb⟩ : ∃ wb, wb = (wa.setCell ⟨gB, (m - 1) * 6 + 1, none⟩ (.slice (some ⟨wa.heap.size, 0, none⟩) 1 1)).alloc (.cells #[.int .i64 1] 3) := ⟨_, rfl⟩
        obtain ⟨hs3, hhs3⟩ : ∃ hs3, hs3 = hs2.set (m - 1) { hz with bo := ⟨some ⟨wa.heap.size, 0, none⟩, 1, 1⟩ } := ⟨_, rfl⟩
        obtain ⟨bs3, hbs3⟩ : ∃ bs3, bs3 = bs2.set (m - 1) { bz with f1 := [1] } := ⟨_, rfl⟩
        have HL3 : Hid (LoW w1 wb gf gv ga (.slice (some ⟨gB, 0, none⟩) m cap) hs3 bs3) := Lib.hid (by rw [hwb, hhs3, hbs3]; exact hL3)
        have HN3 : Hid (hs3.length = m) := Lib.hid (by rw [hhs3, List.length_set]; exact HN2.out)
        have HZ3 : Hid (hs3[m - 1]? = some { hz with bo := ⟨some ⟨wa.heap.size, 0, none⟩, 1, 1⟩ }) := Lib.hid (by rw [hhs3]; exact set_at HZ2.out)
        have HS3 := Lib.hid hbs3
        rw [← hwb]
        clear hwb hL3 cf q1 f1 hbz hhs3 hbs3
        obtain ⟨q2, f2⟩ := HL3.out.cell HN3.out HZ3.out (i := 2) (by omega) rfl
        obtain ⟨q3, f3⟩ := HL3.out.cell HN3.out HZ3.out (i := 3) (by omega) rfl
        obtain ⟨q4, f4⟩ := HL3.out.cell HN3.out HZ3.out (i := 4) (by omega) rfl
        have cf : wb.cell? ⟨gf, 4, none⟩ = some (.slice (some ⟨gB, 0, none⟩) m cap) := (blk_cell HL3.out.fb 4).trans rfl
        have hgs3 := HL3.out.lt
        go_upto_region 15 with (fail)
        have hb3 : bs3[m - 1]? = some { bz with f1 := [1] } := by rw [HS3.out]; exact set_at HBZ.out
        have hL4 := HL3.out.term HN3.out HZ3.out hb3 3 (-1)
        obtain ⟨wd, hwd⟩ : ∃ wd, wd = ((wb.setCell ⟨gB, (m - 1) * 6 + 2, none⟩ (.int .i64 3)).setCell ⟨gB, (m - 1) * 6 + 2 + 1, none⟩ (.int .i64 (-1))).setCell ⟨gB, (m - 1) * 6 + 2 + 2, none⟩ (.slice none 0 0) := ⟨_, rfl⟩
        obtain ⟨hs4, hhs4⟩ : ∃ hs4, hs4 = hs3.set (m - 1) { hz with bo := ⟨some ⟨wa.heap.size, 0, none⟩, 1, 1⟩, k := 3, v := -1, tt := zH } := ⟨_, rfl⟩
        have hbs4 : bs3.set (m - 1) { { bz with f1 := [1] } with f2 := ⟨3, -1, []⟩ } = finB m [0] [1] := by
          have hbz := HBZ.out
          have hb0 := HB0.out
          rw [HS2.out, List.getElem?_set, if_neg (by omega)] at hbz
          unfold chain0 at hbz hb0
          rw [List.getElem?_map, List.getElem?_range (by omega)] at hbz hb0
          simp only [Option.map_some, Option.some.injEq] at hbz hb0
          rw [HS3.out, HS2.out, List.set_set, ← hbz, ← hb0]
          unfold finB chB
          simp only [if_pos (show 0 < m - 1 from by omega), show ¬ 0 < 0 from by omega, if_false]
          congr 2
          have : ((m - 1 : Nat) : Int) - 1 = (m : Int) - 2 := by omega
          rw [this]
        rw [hbs4] at hL4
        have HL4 : Hid (LoW w1 wd gf gv ga (.slice (some ⟨gB, 0, none⟩) m cap) hs4 (finB m [0] [1])) := Lib.hid (by rw [hwd, hhs4]; exact hL4)
        have HN4 : Hid (hs4.length = m) := Lib.hid (by rw [hhs4, List.length_set]; exact HN3.out)
        rw [← hwd]
        clear hwd hL4 cf q2 f2 q3 f3 q4 f4 hhs4 hb3 hbs4 hgs hgs2 hgs3
        have d0 : wd.cell? ⟨gf, 0, none⟩ = some (.string ⟨#[109, 97, 105, 110]⟩) := (blk_cell HL4.out.fb 0).trans rfl
        have d1 : wd.cell? ⟨gf, 1, none⟩ = some (.slice none 0 0) := (blk_cell HL4.out.fb 1).trans rfl
        have d2 : wd.cell? ⟨gf, 2, none⟩ = some (.int .i64 0) := (blk_cell HL4.out.fb 2).trans rfl
        have d3 : wd.cell? ⟨gf, 3, none⟩ = some (.slice (some ⟨gv, 0, none⟩) 2 2) := (blk_cell HL4.out.fb 3).trans rfl
        have d4 : wd.cell? ⟨gf, 4, none⟩ = some (.slice (some ⟨gB, 0, none⟩) m cap) := (blk_cell HL4.out.fb 4).trans rfl
        go_upto_region 16 with (fail)
        obtain ⟨we, hwe⟩ : ∃ we, we = (wd.alloc (.cells #[.string ⟨#[109, 97, 105, 110]⟩, .slice none 0 0, .int .i64 0, .slice (some ⟨gv, 0, none⟩) 2 2, .slice (some ⟨gB, 0, none⟩) m cap] 38)).alloc (.cells #[.slice (some ⟨wd.heap.size, 0, none⟩) 1 1, .int .i64 0] 24) := ⟨_, rfl⟩
        have hbe : Below wd.heap.size wd we := by rw [hwe]; exact below_alloc (below_alloc (Below.refl _ _) _) _
        have hF5 : we.heap[wd.heap.size]? = some (.cells #[.string mainN, .slice none 0 0, .int .i64 0, .slice (some ⟨gv, 0, none⟩) 2 2, .slice (some ⟨gB, 0, none⟩) m cap] 38 (0, 0)) := by
          rw [hwe]; exact blkB (below_alloc (Below.refl _ _) _) (blk_new wd _)
        have hS5 : we.heap[wd.heap.size + 1]? = some (.cells #[.slice (some ⟨wd.heap.size, 0, none⟩) 1 1, .int .i64 0] 24 (0, 0)) := by
          rw [hwe]
          have := blk_new (wd.alloc (.cells #[.string ⟨#[109, 97, 105, 110]⟩, .slice none 0 0, .int .i64 0, .slice (some ⟨gv, 0, none⟩) 2 2, .slice (some ⟨gB, 0, none⟩) m cap] 38)) (.cells #[.slice (some ⟨wd.heap.size, 0, none⟩) 1 1, .int .i64 0] 24)
          rw [size_alloc'] at this
          exact this
        have HL5 := Lib.hid (HL4.out.then_ hbe)
        have HF5 := Lib.hid hF5
        have HS5 := Lib.hid hS5
        rw [← hwe]
        clear hwe hbe hF5 hS5 d0 d1 d2 d3 d4
        obtain ⟨gF, hgF⟩ : ∃ gF, gF = wd.heap.size := ⟨_, rfl⟩
        rw [← hgF] at HF5 HS5 ⊢
        clear hgF
        have z0 : we.cell? ⟨gF + 1, 0, none⟩ = some (.slice (some ⟨gF, 0, none⟩) 1 1) := (blk_cell HS5.out 0).trans rfl
        have z1 : we.cell? ⟨gF + 1, 1, none⟩ = some (.int .i64 0) := (blk_cell HS5.out 1).trans rfl
        have HC5 := Lib.hid (check_at HL5.out HN4.out hcap HF5.out HX.out.1 (by omega))
        go_upto_region 17 with (first | (go_at_call 12; with_reducible refine Calls.mono HC5.out ?_; rintro e wf ⟨rfl, hb⟩; have HBF := Lib.hid hb; clear hb) | (go_at_call 12; refine stop_intro ?_))
        have HL6 := Lib.hid (HL5.out.then_ HBF.out)
        have HF6 := Lib.hid (blkB HBF.out HF5.out)
        have HS6 := Lib.hid (blkB HBF.out HS5.out)
        clear z0 z1 HC5
        obtain ⟨x0, hx0⟩ : ∃ x0, hs4[0]? = some x0 := ⟨_, List.getElem?_eq_getElem (by have := HN4.out; omega)⟩
        obtain ⟨xz, hxz⟩ : ∃ xz, hs4[m - 1]? = some xz := ⟨_, List.getElem?_eq_getElem (by have := HN4.out; omega)⟩
        have HX0 := Lib.hid hx0
        have HXZ := Lib.hid hxz
        clear hx0 hxz
        have hfl : (finB m [0] [1]).length = m := by rw [← HL4.out.len]; exact HN4.out
        have HFL := Lib.hid hfl
        clear hfl
        obtain ⟨q1, f1⟩ := HL6.out.cell HN4.out HXZ.out (i := 1) (by omega) rfl
        have cf : wf.cell? ⟨gf, 4, none⟩ = some (.slice (some ⟨gB, 0, none⟩) m cap) := (blk_cell HL6.out.fb 4).trans rfl
        have hgs6 := HL6.out.lt
        go_upto_region 18 with (fail)
        have hL7 := HL6.out.body2 HN4.out HXZ.out (fin_z m hm2 [0] [1]) (l := [0, 1]) (by unfold maxLen; simp)
        simp only at hL7
        rw [fin_setz] at hL7
        have hF7 := blkB (below_alloc (Below.refl _ _) (.cells #[.int .i64 0, .int .i64 1] 3)) (far46 HL6.out HF6.out (by decide) ((m - 1) * 6 + 1) (.slice (some ⟨wf.heap.size, 0, none⟩) 2 2))
        have hS7 := blkB (below_alloc (Below.refl _ _) (.cells #[.int .i64 0, .int .i64 1] 3)) (far46 HL6.out HS6.out (by decide) ((m - 1) * 6 + 1) (.slice (some ⟨wf.heap.size, 0, none⟩) 2 2))
        obtain ⟨wg, hwg⟩ : ∃ wg, wg = (wf.setCell ⟨gB, (m - 1) * 6 + 1, none⟩ (.slice (some ⟨wf.heap.size, 0, none⟩) 2 2)).alloc (.cells #[.int .i64 0, .int .i64 1] 3) := ⟨_, rfl⟩
        obtain ⟨hs5, hhs5⟩ : ∃ hs5, hs5 = hs4.set (m - 1) { xz with bo := ⟨some ⟨wf.heap.size, 0, none⟩, 2, 2⟩ } := ⟨_, rfl⟩
        have HL7 : Hid (LoW w1 wg gf gv ga (.slice (some ⟨gB, 0, none⟩) m cap) hs5 (finB m [0] [0, 1])) := Lib.hid (by rw [hwg, hhs5]; exact hL7)
        have HF7 : Hid (wg.heap[gF]? = some (.cells #[.string mainN, .slice none 0 0, .int .i64 0, .slice (some ⟨gv, 0, none⟩) 2 2, .slice (some ⟨gB, 0, none⟩) m cap] 38 (0, 0))) := Lib.hid (by rw [hwg]; exact hF7)
        have HS7 : Hid (wg.heap[gF + 1]? = some (.cells #[.slice (some ⟨gF, 0, none⟩) 1 1, .int .i64 0] 24 (0, 0))) := Lib.hid (by rw [hwg]; exact hS7)
        have HN5 : Hid (hs5.length = m) := Lib.hid (by rw [hhs5, List.length_set]; exact HN4.out)
        have HX05 : Hid (hs5[0]? = some x0) := Lib.hid (by rw [hhs5, List.getElem?_set, if_neg (by omega)]; exact HX0.out)
        have HXZ5 : Hid (hs5[m - 1]? = some { xz with bo := ⟨some ⟨wf.heap.size, 0, none⟩, 2, 2⟩ }) := Lib.hid (by rw [hhs5]; exact set_at HXZ.out)
        rw [← hwg]
        clear hwg hL7 hF7 hS7 hhs5 q1 f1 cf hgs6
        obtain ⟨q1, f1⟩ := HL7.out.cell HN5.out HX05.out (i := 1) (by omega) rfl
        rw [show 0 * 6 + 1 = 1 from rfl] at q1 f1
        have cf : wg.cell? ⟨gf, 4, none⟩ = some (.slice (some ⟨gB, 0, none⟩) m cap) := (blk_cell HL7.out.fb 4).trans rfl
        go_upto_region 19 with (fail)
        have hL8 := HL7.out.body HN5.out HX05.out (fin_0 m hm2 [0] [0, 1]) (HdR.nil wg)
        simp only at hL8
        rw [fin_set0 m hm2, show 0 * 6 + 1 = 1 from rfl] at hL8
        have hF8 := far46 HL7.out HF7.out (by decide) 1 (.slice none 0 0)
        have hS8 := far46 HL7.out HS7.out (by decide) 1 (.slice none 0 0)
        obtain ⟨wh, hwh⟩ : ∃ wh, wh = wg.setCell ⟨gB, 1, none⟩ (.slice none 0 0) := ⟨_, rfl⟩
        obtain ⟨hs6, hhs6⟩ : ∃ hs6, hs6 = hs5.set 0 { x0 with bo := zH } := ⟨_, rfl⟩
        have HL8 : Hid (LoW w1 wh gf gv ga (.slice (some ⟨gB, 0, none⟩) m cap) hs6 (finB m [] [0, 1])) := Lib.hid (by rw [hwh, hhs6]; exact hL8)
        have HF8 : Hid (wh.heap[gF]? = some (.cells #[.string mainN, .slice none 0 0, .int .i64 0, .slice (some ⟨gv, 0, none⟩) 2 2, .slice (some ⟨gB, 0, none⟩) m cap] 38 (0, 0))) := Lib.hid (by rw [hwh]; exact hF8)
        have HS8 : Hid (wh.heap[gF + 1]? = some (.cells #[.slice (some ⟨gF, 0, none⟩) 1 1, .int .i64 0] 24 (0, 0))) := Lib.hid (by rw [hwh]; exact hS8)
        have HN6 : Hid (hs6.length = m) := Lib.hid (by rw [hhs6, List.length_set]; exact HN5.out)
        have HXZ6 : Hid (hs6[m - 1]? = some { xz with bo := ⟨some ⟨wf.heap.size, 0, none⟩, 2, 2⟩ }) := Lib.hid (by rw [hhs6, List.getElem?_set, if_neg (by omega)]; exact HXZ5.out)
        rw [← hwh]
        clear hwh hL8 hF8 hS8 hhs6 q1 f1 cf
        have z0 : wh.cell? ⟨gF + 1, 0, none⟩ = some (.slice (some ⟨gF, 0, none⟩) 1 1) := (blk_cell HS8.out 0).trans rfl
        have z1 : wh.cell? ⟨gF + 1, 1, none⟩ = some (.int .i64 0) := (blk_cell HS8.out 1).trans rfl
        have HC8 := Lib.hid (check_at HL8.out HN6.out hcap HF8.out HX.out.2.1 (by omega))
        go_upto_region 20 with (first | (go_at_call 12; with_reducible refine Calls.mono HC8.out ?_; rintro e wi ⟨rfl, hb⟩; have HBI := Lib.hid hb; clear hb) | (go_at_call 12; refine stop_intro ?_))
        have HL9 := Lib.hid (HL8.out.then_ HBI.out)
        have HF9 := Lib.hid (blkB HBI.out HF8.out)
        have HS9 := Lib.hid (blkB HBI.out HS8.out)
        clear z0 z1 HC8
        obtain ⟨q1, f1⟩ := HL9.out.cell HN6.out HXZ6.out (i := 1) (by omega) rfl
        have cf : wi.cell? ⟨gf, 4, none⟩ = some (.slice (some ⟨gB, 0, none⟩) m cap) := (blk_cell HL9.out.fb 4).trans rfl
        have hgs9 := HL9.out.lt
        go_upto_region 21 with (fail)
        have hLa := HL9.out.body2 HN6.out HXZ6.out (fin_z m hm2 [] [0, 1]) (l := [1, 0]) (by unfold maxLen; simp)
        simp only at hLa
        rw [fin_setz] at hLa
        have hFa := blkB (below_alloc (Below.refl _ _) (.cells #[.int .i64 1, .int .i64 0] 3)) (far46 HL9.out HF9.out (by decide) ((m - 1) * 6 + 1) (.slice (some ⟨wi.heap.size, 0, none⟩) 2 2))
        have hSa := blkB (below_alloc (Below.refl _ _) (.cells #[.int .i64 1, .int .i64 0] 3)) (far46 HL9.out HS9.out (by decide) ((m - 1) * 6 + 1) (.slice (some ⟨wi.heap.size, 0, none⟩) 2 2))
        obtain ⟨wj, hwj⟩ : ∃ wj, wj = (wi.setCell ⟨gB, (m - 1) * 6 + 1, none⟩ (.slice (some ⟨wi.heap.size, 0, none⟩) 2 2)).alloc (.cells #[.int .i64 1, .int .i64 0] 3) := ⟨_, rfl⟩
        obtain ⟨hs7, hhs7⟩ : ∃ hs7, hs7 = hs6.set (m - 1) { xz with bo := ⟨some ⟨wi.heap.size, 0, none⟩, 2, 2⟩ } := ⟨_, rfl⟩
        have HLa : Hid (LoW w1 wj gf gv ga (.slice (some ⟨gB, 0, none⟩) m cap) hs7 (finB m [] [1, 0])) := Lib.hid (by rw [hwj, hhs7]; exact hLa)
        have HFa : Hid (wj.heap[gF]? = some (.cells #[.string mainN, .slice none 0 0, .int .i64 0, .slice (some ⟨gv, 0, none⟩) 2 2, .slice (some ⟨gB, 0, none⟩) m cap] 38 (0, 0))) := Lib.hid (by rw [hwj]; exact hFa)
        have HSa : Hid (wj.heap[gF + 1]? = some (.cells #[.slice (some ⟨gF, 0, none⟩) 1 1, .int .i64 0] 24 (0, 0))) := Lib.hid (by rw [hwj]; exact hSa)
        have HNa : Hid (hs7.length = m) := Lib.hid (by rw [hhs7, List.length_set]; exact HN6.out)
        rw [← hwj]
        clear hwj hLa hFa hSa hhs7 q1 f1 cf hgs9
        have z0 : wj.cell? ⟨gF + 1, 0, none⟩ = some (.slice (some ⟨gF, 0, none⟩) 1 1) := (blk_cell HSa.out 0).trans rfl
        have z1 : wj.cell? ⟨gF + 1, 1, none⟩ = some (.int .i64 0) := (blk_cell HSa.out 1).trans rfl
        have HCa := Lib.hid (check_at HLa.out HNa.out hcap HFa.out HX.out.2.2 (by omega))
        go_wp2_with (first | (go_at_call 12; with_reducible refine Calls.mono HCa.out ?_; rintro e wk ⟨rfl, hb⟩; have HBK := Lib.hid hb; clear hb) | (go_at_call 12; refine stop_intro ?_))
        go_ret
        exact ⟨rfl, below_then HB1.out HB1.out.size (below_then HLa.out.below HLa.out.below.size HBK.out)⟩
end Go.Proofs.Ytgbeliajhccndaa
