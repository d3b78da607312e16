/- Chapter 9: blocks of a function that is made, by their headers. -/
import Derived.Test.YtgbeliajhccndaaTJ
set_option linter.unusedVariables false
set_option linter.unusedSimpArgs false
namespace Go.Proofs.Ytgbeliajhccndaa
open Go.RowKit Go.Proofs.YtgbeliajhccndaaW.PrintWords Go.Proofs.YtgbeliajhccndaaW.PrintLast Go.Proofs.YtgbeliajhccndaaW.PrintMore PP

def HdR (w : World) (h : Hd) (l : List Int) : Prop := (Kd.int .i64).R 3 w 0 (fun _ => True) (encH h) l
structure BH where
  ph : Hd
  bo : Hd
  k : Int
  v : Int
  tt : Hd
  pr : Hd
def encB (h : BH) : List Value := [encH h.ph, encH h.bo, .int .i64 h.k, .int .i64 h.v, encH h.tt, encH h.pr]
structure BhOk (w : World) (h : BH) (b : S46) : Prop where
  ph : HdR w h.ph b.f0
  bo : HdR w h.bo b.f1
  k : h.k = b.f2.f0
  v : h.v = b.f2.f1
  tt : HdR w h.tt b.f2.f2
  pr : HdR w h.pr b.f3
/-- Rows of ints stay. -/
def keep3 (w W : World) : Prop := ∀ (k : Nat) (cs : Array Value), w.heap[k]? = some (Obj.cells cs 3 (0, 0)) → W.heap[k]? = some (Obj.cells cs 3 (0, 0))
section
variable {w W : World}
theorem keep3.of_below (h : Below w.heap.size w W) : keep3 w W := fun k cs hk => blkB h hk
theorem keep3.of_grown {row : Option Nat} (h : w.grownBy W row) (hr : ∀ k, row = some k → ∃ (cs : Array Value) (t : Nat), w.heap[k]? = some (Obj.cells cs t (0, 0)) ∧ t ≠ 3) : keep3 w W := fun k cs hk => by
  refine (h.block k (blk_lt hk) (fun e => ?_)).trans hk
  obtain ⟨cs2, t, h1, h2⟩ := hr k e.symm
  rw [hk] at h1
  injection h1 with h1
  injection h1 with _ h1
  exact h2 h1.symm
theorem keep3.of_set {p : Addr} {cs : Array Value} {t : TypeId} (hp : w.heap[p.block]? = some (.cells cs t (0, 0))) (ht : t ≠ 3) (u : Value) : keep3 w (w.setCell p u) := fun k cs2 hk => by
  refine blk_far hk (fun e => ?_) u
  rw [e, hp] at hk
  injection hk with hk
  injection hk with _ hk
  exact ht hk
theorem keep3.trans {V : World} (h : keep3 w W) (h' : keep3 W V) : keep3 w V := fun k cs hk => h' k cs (h k cs hk)
theorem HdR.keep {h : Hd} {l : List Int} (hh : HdR w h l) (hk : keep3 w W) : HdR W h l := int_flat hh (fun k hq => by
  obtain ⟨_, _, c, hc⟩ := rowI_block hh hq
  rw [hk k c hc, hc])
theorem BhOk.keep {h : BH} {b : S46} (hh : BhOk w h b) (hk : keep3 w W) : BhOk W h b := ⟨hh.ph.keep hk, hh.bo.keep hk, hh.k, hh.v, hh.tt.keep hk, hh.pr.keep hk⟩
theorem HdR.nil (w : World) : HdR w zH [] := Kd.R_nil _ _ _ _ _
theorem HdR.row {g : Nat} {l : List Int} (h : RowI w g l) (hl : l.length ≤ maxLen) : HdR w ⟨some ⟨g, 0, none⟩, l.length, l.length⟩ l := by
  refine Kd.R_of_own (enc := Value.int .i64) ⟨by simp [encs], .inr ⟨g, l.length, (nums .i64 l).toArray, rfl, Nat.zero_le _, h, Nat.le_refl _, hl, by simp [nums], ?_⟩⟩ (fun _ _ => trivial)
  rw [show l.length * 1 = (l.map (Value.int .i64)).length from by simp]
  exact List.take_length
theorem HdR.C {h : Hd} {l : List Int} (hh : HdR w h l) : h.n = l.length ∧ h.n ≤ h.c ∧ (Kd.int .i64).C w h.a l.length l := Kd.R_reads' hh
theorem BhOk.K {h : BH} {b : S46} (hh : BhOk w h b) : k46.K w b (encB h) := by
  obtain ⟨p1, p2, p3⟩ := hh.ph.C
  obtain ⟨b1, b2, b3⟩ := hh.bo.C
  obtain ⟨t1, t2, t3⟩ := hh.tt.C
  obtain ⟨r1, r2, r3⟩ := hh.pr.C
  have := k46_mk w b (A0 := h.ph.a) (c0 := h.ph.c) (by omega) p3 (A1 := h.bo.a) (c1 := h.bo.c) (by omega) b3 (A4 := h.tt.a) (c4 := h.tt.c) (by omega) t3 (A5 := h.pr.a) (c5 := h.pr.c) (by omega) r3
  unfold encB encH
  rw [p1, b1, t1, r1, hh.k, hh.v]
  exact this
end
theorem encB_len (h : BH) : (encB h).length = 6 := rfl
theorem flat_len : ∀ (hs : List BH), (hs.flatMap encB).length = hs.length * 6
  | [] => rfl
  | h :: r => by rw [List.flatMap_cons, List.length_append, flat_len r, encB_len, List.length_cons]; omega
theorem flat_drop : ∀ (hs : List BH) (j : Nat) (h : BH), hs[j]? = some h → ((hs.flatMap encB).drop (j * 6)).take 6 = encB h
  | [], j, h, e => by simp at e
  | x :: r, 0, h, e => by
    simp at e
    subst e
    rw [List.flatMap_cons]
    simp [encB]
  | x :: r, j + 1, h, e => by
    have := flat_drop r j h (by simpa using e)
    rw [List.flatMap_cons, show (j + 1) * 6 = (encB x).length + j * 6 from by rw [encB_len]; omega, List.drop_append]
    rw [List.drop_eq_nil_of_le (by omega), List.nil_append, Nat.add_sub_cancel_left]
    exact this
theorem flat_get (hs : List BH) (j i : Nat) (h : BH) (e : hs[j]? = some h) (hi : i < 6) : (hs.flatMap encB)[j * 6 + i]? = (encB h)[i]? := by
  rw [← flat_drop hs j h e, List.getElem?_take, if_pos hi, List.getElem?_drop]
theorem flat_set : ∀ (hs : List BH) (j i : Nat) (h h' : BH) (u : Value), hs[j]? = some h → i < 6 → (encB h).set i u = encB h' → (hs.flatMap encB).set (j * 6 + i) u = (hs.set j h').flatMap encB
  | [], j, i, h, h', u, e, _, _ => by simp at e
  | x :: r, 0, i, h, h', u, e, hi, hu => by
    simp at e
    subst e
    rw [List.flatMap_cons, List.set_cons_zero, List.flatMap_cons, ← hu, List.set_append_left _ _ (by rw [encB_len]; omega)]
    simp
  | x :: r, j + 1, i, h, h', u, e, hi, hu => by
    have := flat_set r j i h h' u (by simpa using e) hi hu
    rw [List.flatMap_cons, List.set_cons_succ, List.flatMap_cons, ← this, List.set_append_right _ _ (by rw [encB_len]; omega), encB_len]
    congr 2
    omega
theorem blocks_C {w : World} {base n : Nat} {v : Value} {hs : List BH} {bs : List S46} (h : w.ownsRow base 46 6 v n (hs.flatMap encB)) (hl : hs.length = bs.length) (hn : bs.length = n) (hok : ∀ (i : Nat) (h : BH) (b : S46), hs[i]? = some h → bs[i]? = some b → BhOk w h b) :
    ∃ A c, v = .slice A n c ∧ k46.C w A n bs := by
  have hr : Reps (k46.K w) 6 bs (hs.flatMap encB) := by
    refine ⟨by rw [flat_len, hl], fun j p hj => ?_⟩
    have hjl : j < hs.length := by rw [hl]; exact (List.getElem?_eq_some_iff.1 hj).1
    have he : hs[j]? = some hs[j] := List.getElem?_eq_getElem hjl
    rw [flat_drop hs j _ he]
    exact (hok j _ p he hj).K
  exact own_reads_row h hr hn
/-- What SSALong has in memory: the function, its values, its blocks. -/
structure LoW (w wr : World) (gf gv ga : Nat) (v : Value) (hs : List BH) (bs : List S46) : Prop where
  below : Below w.heap.size w wr
  fb : wr.heap[gf]? = some (.cells #[.string ⟨#[109, 97, 105, 110]⟩, .slice none 0 0, .int .i64 0, .slice (some ⟨gv, 0, none⟩) 2 2, v] 38 (0, 0))
  vb : wr.heap[gv]? = some (.cells #[.int .i64 1, .int .i64 1, .int .i64 7, .slice none 0 0, .int .i64 26, .int .i64 0, .int .i64 0, .slice (some ⟨ga, 0, none⟩) 1 1] 42 (0, 0))
  ab : RowI wr ga [0]
  own : wr.ownsRow w.heap.size 46 6 v hs.length (hs.flatMap encB)
  len : hs.length = bs.length
  ok : ∀ (i : Nat) (h : BH) (b : S46), hs[i]? = some h → bs[i]? = some b → BhOk wr h b
  gf : w.heap.size ≤ gf
section
variable {w wr W w4 : World} {gf gv ga : Nat} {v v1 : Value} {hs : List BH} {bs : List S46}
theorem LoW.then_ (h : LoW w wr gf gv ga v hs bs) (hb : Below wr.heap.size wr W) : LoW w W gf gv ga v hs bs :=
  ⟨below_then h.below h.below.size hb, blkB hb h.fb, blkB hb h.vb, h.ab.below hb, pw_own_below h.own hb, h.len, fun i x b h1 h2 => (h.ok i x b h1 h2).keep (keep3.of_below hb), h.gf⟩
theorem own46_ne {w : World} {base n : Nat} {v : Value} {xs : List Value} (h : w.ownsRow base 46 6 v n xs) {k t : Nat} {cs : Array Value} (hk : w.heap[k]? = some (.cells cs t (0, 0))) (ht : t ≠ 46) : v.ownBlock ≠ some k := fun e => by
  obtain ⟨c, hc⟩ := own_typed h k e
  rw [hk] at hc
  injection hc with hc
  injection hc with _ hc
  exact ht hc
theorem LoW.grown_f (h : LoW w wr gf gv ga v hs bs) (hg : wr.grownBy w4 v.ownBlock) : w4.heap[gf]? = some (.cells #[.string ⟨#[109, 97, 105, 110]⟩, .slice none 0 0, .int .i64 0, .slice (some ⟨gv, 0, none⟩) 2 2, v] 38 (0, 0)) :=
  (hg.block gf (blk_lt h.fb) (fun e => own46_ne h.own h.fb (by decide) e.symm)).trans h.fb
theorem LoW.app (h : LoW w wr gf gv ga v hs bs) {hn : BH} {b : S46} (hown : w4.ownsRow w.heap.size 46 6 v1 (hs.length + 1) (hs.flatMap encB ++ encB hn)) (hg : wr.grownBy w4 v.ownBlock) (hok : BhOk wr hn b) :
    LoW w (w4.setCell ⟨gf, 4, none⟩ v1) gf gv ga v1 (hs ++ [hn]) (bs ++ [b]) := by
  have hk4 : ∀ (k t : Nat) (cs : Array Value), wr.heap[k]? = some (Obj.cells cs t (0, 0)) → t ≠ 46 → w4.heap[k]? = some (.cells cs t (0, 0)) := fun k t cs hk ht =>
    (hg.block k (blk_lt hk) (fun e => own46_ne h.own hk ht e.symm)).trans hk
  have hf4 := hk4 gf 38 _ h.fb (by decide)
  have hne : ∀ (k t : Nat) (cs : Array Value), wr.heap[k]? = some (Obj.cells cs t (0, 0)) → t ≠ 38 → k ≠ gf := fun k t cs hk ht e => by
    subst e
    rw [h.fb] at hk
    injection hk with hk
    injection hk with _ hk
    exact ht hk.symm
  have hk3 : keep3 wr (w4.setCell ⟨gf, 4, none⟩ v1) := (keep3.of_grown hg (fun k hk => by obtain ⟨c, hc⟩ := own_typed h.own k hk; exact ⟨c, 46, hc, by decide⟩)).trans (keep3.of_set (p := ⟨gf, 4, none⟩) hf4 (by decide) v1)
  refine ⟨below_set (h.below.grown hg h.below.size (fun k hk => own_base h.own k hk)) h.gf, ?_, ?_, ?_, ?_, by simp [h.len], fun i x y hx hy => ?_, h.gf⟩
  · rw [blk_set hf4]; rfl
  · exact blk_far (hk4 gv 42 _ h.vb (by decide)) (hne gv 42 _ h.vb (by decide)) _
  · exact hk3 ga _ h.ab
  · rw [List.length_append, List.flatMap_append]
    have := own_setCell hown (p := ⟨gf, 4, none⟩) (fun e => own46_ne hown hf4 (by decide) e.symm) v1
    simpa using this
  · rcases Nat.lt_or_ge i hs.length with hi | hi
    · rw [List.getElem?_append_left hi] at hx
      rw [List.getElem?_append_left (by rw [← h.len]; exact hi)] at hy
      exact (h.ok i x y hx hy).keep hk3
    · rw [List.getElem?_append_right hi] at hx
      rw [List.getElem?_append_right (by rw [← h.len]; exact hi), ← h.len] at hy
      have : i - hs.length = 0 := by
        have := (List.getElem?_eq_some_iff.1 hx).1
        simp at this; exact this
      rw [this] at hx hy
      simp at hx hy
      subst hx; subst hy
      exact hok.keep hk3
/-- A cell of a block's header is written. -/
theorem LoW.put {gB cap n : Nat} (h : LoW w wr gf gv ga (.slice (some ⟨gB, 0, none⟩) n cap) hs bs) (hn : hs.length = n) {j i : Nat} {x x' : BH} {b' : S46} {u : Value} (hj : hs[j]? = some x) (hi : i < 6) (hu : (encB x).set i u = encB x') (hok : BhOk wr x' b') :
    LoW w (wr.setCell ⟨gB, j * 6 + i, none⟩ u) gf gv ga (.slice (some ⟨gB, 0, none⟩) n cap) (hs.set j x') (bs.set j b') := by
  subst hn
  obtain ⟨c, hc⟩ := own_typed h.own gB rfl
  have hge := own_base h.own gB rfl
  have hne : ∀ (k t : Nat) (cs : Array Value), wr.heap[k]? = some (Obj.cells cs t (0, 0)) → t ≠ 46 → k ≠ gB := fun k t cs hk ht e => own46_ne h.own hk ht (by rw [e]; rfl)
  have hk3 : keep3 wr (wr.setCell ⟨gB, j * 6 + i, none⟩ u) := keep3.of_set (p := ⟨gB, j * 6 + i, none⟩) hc (by decide) u
  have hs1 := (h.own.stored (j * 6 + i) u).1
  rw [flat_set hs j i x x' u hj hi hu] at hs1
  refine ⟨below_set h.below hge, blk_far h.fb (hne gf 38 _ h.fb (by decide)) _, blk_far h.vb (hne gv 42 _ h.vb (by decide)) _, hk3 ga _ h.ab, by rw [List.length_set]; exact hs1, by simp [h.len], fun q y z hy hz => ?_, h.gf⟩
  by_cases e : j = q
  · subst e
    have hjl := (List.getElem?_eq_some_iff.1 hj).1
    rw [List.getElem?_set, if_pos rfl, if_pos hjl] at hy
    rw [List.getElem?_set, if_pos rfl, if_pos (by rw [← h.len]; exact hjl)] at hz
    injection hy with hy
    injection hz with hz
    subst hy; subst hz
    exact hok.keep hk3
  · rw [List.getElem?_set, if_neg e] at hy hz
    exact (h.ok q y z hy hz).keep hk3
/-- What is read at a place of the blocks' row. -/
theorem LoW.cell {gB cap n : Nat} (h : LoW w wr gf gv ga (.slice (some ⟨gB, 0, none⟩) n cap) hs bs) (hn : hs.length = n) {j i : Nat} {x : BH} (hj : hs[j]? = some x) (hi : i < 6) {u : Value} (hu : (encB x)[i]? = some u) : wr.cell? ⟨gB, j * 6 + i, none⟩ = some u ∧ wr.frozen? ⟨gB, j * 6 + i, none⟩ = false := by
  subst hn
  exact own_cell h.own (by rw [flat_get hs j i x hj hi]; exact hu)
end
end Go.Proofs.Ytgbeliajhccndaa
