/- Chapter 9: the walk of walk: what it leaves behind. Chapter 9: the walk of walk. -/
import Derived.Test.YtgbeliajhccndaaZE
import Derived.Test.YtgbeliajhccndaaZD
set_option linter.unusedVariables false
set_option linter.unusedSimpArgs false
namespace Go.Proofs.Ytgbeliajhccndaa
open Go.RowKit Go.Proofs.YtgbeliajhccndaaW.PrintWords Go.Proofs.YtgbeliajhccndaaW.PrintLast Go.Proofs.YtgbeliajhccndaaW.PrintMore PP

/-- what stands below each block in the tree -/
def kidsF (T : List Int) : List (List Int) → Nat → Nat → List (List Int)
  | rs, _, 0 => rs
  | rs, b, k + 1 => kidsF T (if 0 ≤ T.getD b 0 then addAt rs (T.getD b 0).toNat (b : Int) else rs) (b + 1) k
def kidsOf (T : List Int) : List (List Int) := kidsF T (List.replicate T.length []) 0 T.length
/-- the walk: when each block is come to, and the last one below it -/
def walkF : Nat → Int → List Int → List Int → List (List Int) → List Int → Option (List Int × List Int)
  | 0, _, _, _, _, _ => none
  | _ + 1, _, F, L, _, [] => some (F, L)
  | k + 1, n, F, L, kids, b :: st =>
    match kids.getD b.toNat [] with
    | [] => walkF k (if F.getD b.toNat 0 = 0 then n + 1 else n) (if F.getD b.toNat 0 = 0 then F.set b.toNat (n + 1) else F) (L.set b.toNat (if F.getD b.toNat 0 = 0 then n + 1 else n)) kids st
    | c :: r => walkF k (if F.getD b.toNat 0 = 0 then n + 1 else n) (if F.getD b.toNat 0 = 0 then F.set b.toNat (n + 1) else F) L (kids.set b.toNat (c :: r).dropLast) ((c :: r).getLast (by simp) :: b :: st)
def walkOf (T : List Int) (K : Nat) : Option (List Int × List Int) := walkF K 0 (List.replicate T.length 0) (List.replicate T.length 0) (kidsOf T) [0]

/-- Rows under one row of headers, all below a mark. -/
structure LdU (sz : Nat) (wr : World) (gk : Nat) (hs : List Hd) (rs : List (List Int)) : Prop where
  ld : Ld 0 wr gk hs rs
  up : ∀ i k, i < hs.length → (encH (hs.getD i zH)).ownBlock = some k → k < sz
  gk : gk < sz
section
variable {sz gk : Nat} {wr W : World} {hs : List Hd} {rs : List (List Int)}
theorem LdU.keep (h : LdU sz wr gk hs rs) (hk : ∀ k, k < sz → k ≠ gk → W.heap[k]? = wr.heap[k]?) (hg : W.heap[gk]? = wr.heap[gk]?) : LdU sz W gk hs rs :=
  ⟨⟨by rw [hg]; exact h.ld.blk, h.ld.len, fun i hi => int_flat (h.ld.row i hi) (fun k hq => hk k (h.up i k hi hq) (h.ld.ne hi hq)), h.ld.apart⟩, h.up, h.gk⟩
/-- A header is cut. -/
theorem LdU.cut (h : LdU sz wr gk hs rs) {i : Nat} (hi : i < hs.length) {a : Option Addr} {n c m : Nat} (hh : hs.getD i zH = ⟨a, n, c⟩) (hm : m ≤ n) : LdU sz (wr.setCell ⟨gk, i, none⟩ (.slice a m c)) gk (hs.set i ⟨a, m, c⟩) (rs.set i ((rs.getD i []).take m)) := by
  have hlr := h.ld.len
  have e1 : ∀ j, j ≠ i → (hs.set i (⟨a, m, c⟩ : Hd)).getD j zH = hs.getD j zH := fun j hj => by simp [List.getD_eq_getElem?_getD, List.getElem?_set, Ne.symm hj]
  have e2 : (hs.set i (⟨a, m, c⟩ : Hd)).getD i zH = ⟨a, m, c⟩ := by simp [List.getD_eq_getElem?_getD, List.getElem?_set, hi]
  have e3 : ∀ j, j ≠ i → (rs.set i ((rs.getD i []).take m)).getD j [] = rs.getD j [] := fun j hj => by simp [List.getD_eq_getElem?_getD, List.getElem?_set, Ne.symm hj]
  have e4 : (rs.set i ((rs.getD i []).take m)).getD i [] = (rs.getD i []).take m := by
    have : i < rs.length := by omega
    simp [List.getD_eq_getElem?_getD, List.getElem?_set, this]
  have hown : (encH (⟨a, m, c⟩ : Hd)).ownBlock = (encH (hs.getD i zH)).ownBlock := by rw [hh]; cases a <;> rfl
  have hown2 : ∀ j, (encH ((hs.set i (⟨a, m, c⟩ : Hd)).getD j zH)).ownBlock = (encH (hs.getD j zH)).ownBlock := by
    intro j
    by_cases e : j = i
    · subst e; rw [e2, hown]
    · rw [e1 j e]
  have hlen : (hs.set i (⟨a, m, c⟩ : Hd)).length = hs.length := by simp
  refine ⟨⟨?_, by simp [hlr], fun j hj => ?_, fun x y k hx hy hxy hk => ?_⟩, fun j k hj hk => ?_, h.gk⟩
  · rw [blk_set h.ld.blk]; simp [List.map_set, encH]
  · rw [hlen] at hj
    by_cases e : j = i
    · subst e
      rw [e2, e4]
      have h1 := h.ld.row j hj
      have h2 := (h.ld.C hj).1
      rw [hh] at h1 h2
      simp only at h2
      have h4 := Kd.own_of_R h1
      have h3 := own_take (m := m) (c := c) (A := a) (n := (rs.getD j []).length) (by rw [← h2]; rw [← h2] at h4; exact h4) (by omega)
      refine int_flat (w := wr) (Kd.R_of_own ?_ (fun _ _ => trivial)) (fun k hk => Below.heap_setCell _ _ _ _ ?_)
      · have hl : ((rs.getD j []).take m).length = m := by rw [List.length_take]; omega
        rw [hl]
        have e5 : (encs (Value.int .i64) (rs.getD j [])).take (m * 1) = encs (Value.int .i64) ((rs.getD j []).take m) := by simp [encs, List.map_take]
        rw [e5] at h3
        exact h3
      · refine h.ld.ne hj (i := j) ?_
        rw [← hown]
        exact hk
    · rw [e1 j e, e3 j e]
      exact int_flat (h.ld.row j hj) (fun k hk => Below.heap_setCell _ _ _ _ (h.ld.ne hj hk))
  · rw [hlen] at hx hy
    rw [hown2] at hk ⊢
    exact h.ld.apart x y k hx hy hxy hk
  · rw [hlen] at hj
    rw [hown2] at hk
    exact h.up j k hj hk
end
theorem LdU.of {b g gk : Nat} {wk W : World} {hs : List Hd} {rs : List (List Int)} (h : Ld b wk gk hs rs) (hb : g < b) (hg : gk ≠ g) (hk : ∀ j, j < wk.heap.size → j ≠ g → W.heap[j]? = wk.heap[j]?) : LdU wk.heap.size W gk hs rs := by
  have hgl := blk_lt h.blk
  refine ⟨⟨(hk gk hgl hg).trans h.blk, h.len, fun i hi => ?_, h.apart⟩, fun i k hi hq => (rowI_block (h.row i hi) hq).2.1, hgl⟩
  refine int_flat (Kd.R_lower (h.row i hi) (Nat.zero_le _)) (fun k hq => ?_)
  obtain ⟨q1, q2, _⟩ := rowI_block (h.row i hi) hq
  exact hk k q2 (by omega)
/-- While the two rows are made: the checker's block, what is new, what stays. -/
structure Mk2 (w0 w1 x : World) (g : Nat) (d : Ck) (v3 v4 v5 v6 : Value) (n : Nat) (rs : List Nat) : Prop where
  below : Below w0.heap.size w0 x
  bk : x.heap[g]? = some (.cells #[.slice d.A d.fs.length d.c, .int .i64 d.mn, .pointer (some d.p), v3, v4, v5, v6] 58 (0, 0))
  keep : ∀ j, j < w1.heap.size → j ≠ g → x.heap[j]? = w1.heap[j]?
  rows : ∀ a ∈ rs, RowI x a (List.replicate n 0) ∧ w1.heap.size ≤ a
  size : w1.heap.size ≤ x.heap.size
section
variable {w0 w1 x : World} {g : Nat} {d : Ck} {v3 v4 v5 v6 : Value} {n : Nat} {rs : List Nat}
theorem Mk2.drew (h : Mk2 w0 w1 x g d v3 v4 v5 v6 n rs) : Mk2 w0 w1 x.drew g d v3 v4 v5 v6 n rs := ⟨below_drew h.below, h.bk, h.keep, h.rows, h.size⟩
theorem Mk2.alloc (h : Mk2 w0 w1 x g d v3 v4 v5 v6 n rs) (a : Nat) (ha : x.heap.size = a) : Mk2 w0 w1 (x.alloc (.cells (madeCells #[.int .i64 0] n) 3)) g d v3 v4 v5 v6 n (a :: rs) := by
  have hb := below_alloc (Below.refl x.heap.size x) (.cells (madeCells #[.int .i64 0] n) 3)
  subst ha
  refine ⟨below_alloc h.below _, blkB hb h.bk, fun j hj hg => (hb.block j (Nat.lt_of_lt_of_le hj h.size)).trans (h.keep j hj hg), ?_, ?_⟩
  · intro a hm
    rcases List.mem_cons.1 hm with rfl | hm
    · exact ⟨by unfold RowI; rw [← made_zeros]; exact blk_new x _, h.size⟩
    · exact ⟨(h.rows a hm).1.below hb, (h.rows a hm).2⟩
  · have := h.size
    have := hb.size
    omega
theorem Mk2.s3 (h : Mk2 w0 w1 x g d v3 v4 v5 v6 n rs) (hg : w0.heap.size ≤ g) (h1 : g < w1.heap.size) (u : Value) : Mk2 w0 w1 (x.setCell ⟨g, 3, none⟩ u) g d u v4 v5 v6 n rs :=
  ⟨below_set h.below hg, (blk_set h.bk 3 u).trans rfl, fun j hj hg => (Below.heap_setCell _ _ _ _ hg).trans (h.keep j hj hg), fun a ha => ⟨(h.rows a ha).1.far (by have := (h.rows a ha).2; show a ≠ g; omega) u, (h.rows a ha).2⟩, by have := h.size; simpa [World.setCell] using this⟩
theorem Mk2.s4 (h : Mk2 w0 w1 x g d v3 v4 v5 v6 n rs) (hg : w0.heap.size ≤ g) (h1 : g < w1.heap.size) (u : Value) : Mk2 w0 w1 (x.setCell ⟨g, 4, none⟩ u) g d v3 u v5 v6 n rs :=
  ⟨below_set h.below hg, (blk_set h.bk 4 u).trans rfl, fun j hj hg => (Below.heap_setCell _ _ _ _ hg).trans (h.keep j hj hg), fun a ha => ⟨(h.rows a ha).1.far (by have := (h.rows a ha).2; show a ≠ g; omega) u, (h.rows a ha).2⟩, by have := h.size; simpa [World.setCell] using this⟩
end
def Made2 (w0 w1 x : World) (g : Nat) (d : Ck) (v5 v6 : Value) (n : Nat) : Prop :=
  ∃ gw ga rs, Mk2 w0 w1 x g d (.slice (some ⟨gw, 0, none⟩) n n) (.slice (some ⟨ga, 0, none⟩) n n) v5 v6 n rs ∧ gw ∈ rs ∧ ga ∈ rs ∧ gw ≠ ga
theorem Made2.of {w0 w1 x : World} {g : Nat} {d : Ck} {v5 v6 : Value} {n gw ga : Nat} {rs : List Nat} (h : Mk2 w0 w1 x g d (.slice (some ⟨gw, 0, none⟩) n n) (.slice (some ⟨ga, 0, none⟩) n n) v5 v6 n rs) (h1 : gw ∈ rs) (h2 : ga ∈ rs) (h3 : gw ≠ ga) : Made2 w0 w1 x g d v5 v6 n := ⟨gw, ga, rs, h, h1, h2, h3⟩
/-- While kids is filled. -/
structure KdW (w wt wr : World) (gk gt : Nat) (T : List Int) (hs : List Hd) (rs : List (List Int)) : Prop where
  below : Below w.heap.size w wr
  tr : RowI wr gt T
  ld : Ld wt.heap.size wr gk hs rs
  b1 : w.heap.size ≤ gk
  b2 : gk < wt.heap.size
  b3 : gt < wt.heap.size
  b4 : gt ≠ gk
  b5 : wt.heap.size ≤ wr.heap.size
theorem KdW.app {w wt wr w1 : World} {gk gt : Nat} {T : List Int} {hs : List Hd} {rs : List (List Int)} (h : KdW w wt wr gk gt T hs rs) {i : Nat} (hi : i < hs.length) {h1 : Hd} {x : Int} (hR : (Kd.int .i64).R 3 w1 wt.heap.size (fun _ => True) (encH h1) (rs.getD i [] ++ [x])) (hg : wr.grownBy w1 (encH (hs.getD i zH)).ownBlock)
    (hat : (encH h1).ownBlock = (encH (hs.getD i zH)).ownBlock ∨ ∃ b, (encH h1).ownBlock = some b ∧ wr.heap.size ≤ b) :
    KdW w wt (w1.setCell ⟨gk, i, none⟩ (encH h1)) gk gt T (hs.set i h1) (addAt rs i x) := by
  have hb : ∀ k, (encH (hs.getD i zH)).ownBlock = some k → wt.heap.size ≤ k := fun k hk => (rowI_block (h.ld.row i hi) hk).1
  have q1 := h.b1
  have q2 := h.b2
  have q3 := h.b3
  have q5 := h.b5
  refine ⟨below_set (h.below.grown hg h.below.size (fun k hk => by have := hb k hk; omega)) h.b1, ?_, h.ld.app hi hR hg hat, h.b1, h.b2, h.b3, h.b4, ?_⟩
  · refine RowI.far (p := ⟨gk, i, none⟩) ?_ h.b4 _
    show w1.heap[gt]? = _
    rw [hg.block gt h.tr.lt (fun e => by have := hb gt e.symm; omega)]
    exact h.tr
  · have := hg.size
    show _ ≤ (w1.setCell _ _).heap.size
    simp [World.setCell]
    omega
/-- The walk's state. -/
structure WkS (w0 w wr : World) (sz g gk gf gl : Nat) (d : Ck) (v5 v6 : Value) (n : Nat) (F L : List Int) (hs : List Hd) (kids : List (List Int)) : Prop where
  below : Below w0.heap.size w0 wr
  bk : wr.heap[g]? = some (.cells #[.slice d.A d.fs.length d.c, .int .i64 d.mn, .pointer (some d.p), .slice (some ⟨gf, 0, none⟩) n n, .slice (some ⟨gl, 0, none⟩) n n, v5, v6] 58 (0, 0))
  rf : RowI wr gf F
  rl : RowI wr gl L
  ld : LdU sz wr gk hs kids
  keep : ∀ j, j < w.heap.size → j ≠ g → wr.heap[j]? = w.heap[j]?
  l1 : F.length = n
  l2 : L.length = n
  l3 : hs.length = n
structure WkA (w0 w : World) (sz g gk gf gl bb : Nat) : Prop where
  a1 : w0.heap.size ≤ g ∧ g < w.heap.size ∧ w.heap.size ≤ gk ∧ gk < sz ∧ sz ≤ gf ∧ sz ≤ gl ∧ gf < bb ∧ gl < bb ∧ w0.heap.size ≤ w.heap.size
  a2 : gf ≠ gl
section
variable {w0 w wr W : World} {sz g gk gf gl bb : Nat} {d : Ck} {v5 v6 : Value} {n : Nat} {F L : List Int} {hs : List Hd} {kids : List (List Int)}
theorem WkS.setF (h : WkS w0 w wr sz g gk gf gl d v5 v6 n F L hs kids) (ha : WkA w0 w sz g gk gf gl bb) (i : Nat) (x : Int) : WkS w0 w (wr.setCell ⟨gf, i, none⟩ (.int .i64 x)) sz g gk gf gl d v5 v6 n (F.set i x) L hs kids := by
  obtain ⟨p0, p1, p2, p3, p4, p5, p6, p7, p8⟩ := ha.a1
  have p9 := ha.a2
  exact ⟨below_set h.below (by omega), blk_far h.bk (by show g ≠ gf; omega) _, h.rf.set i x, h.rl.far (p := ⟨gf, i, none⟩) (by show gl ≠ gf; omega) _, h.ld.keep (fun k hk _ => Below.heap_setCell _ _ _ _ (by show k ≠ gf; omega)) (Below.heap_setCell _ _ _ _ (by show gk ≠ gf; omega)), fun j hj hg => (Below.heap_setCell _ _ _ _ (by show j ≠ gf; omega)).trans (h.keep j hj hg), by simp [h.l1], h.l2, h.l3⟩
theorem WkS.setL (h : WkS w0 w wr sz g gk gf gl d v5 v6 n F L hs kids) (ha : WkA w0 w sz g gk gf gl bb) (i : Nat) (x : Int) : WkS w0 w (wr.setCell ⟨gl, i, none⟩ (.int .i64 x)) sz g gk gf gl d v5 v6 n F (L.set i x) hs kids := by
  obtain ⟨p0, p1, p2, p3, p4, p5, p6, p7, p8⟩ := ha.a1
  have p9 := ha.a2
  exact ⟨below_set h.below (by omega), blk_far h.bk (by show g ≠ gl; omega) _, h.rf.far (p := ⟨gl, i, none⟩) (by show gf ≠ gl; omega) _, h.rl.set i x, h.ld.keep (fun k hk _ => Below.heap_setCell _ _ _ _ (by show k ≠ gl; omega)) (Below.heap_setCell _ _ _ _ (by show gk ≠ gl; omega)), fun j hj hg => (Below.heap_setCell _ _ _ _ (by show j ≠ gl; omega)).trans (h.keep j hj hg), h.l1, by simp [h.l2], h.l3⟩
theorem WkS.cut (h : WkS w0 w wr sz g gk gf gl d v5 v6 n F L hs kids) (ha : WkA w0 w sz g gk gf gl bb) {i : Nat} (hi : i < hs.length) {a : Option Addr} {q c m : Nat} (hh : hs.getD i zH = ⟨a, q, c⟩) (hm : m ≤ q) : WkS w0 w (wr.setCell ⟨gk, i, none⟩ (.slice a m c)) sz g gk gf gl d v5 v6 n F L (hs.set i ⟨a, m, c⟩) (kids.set i ((kids.getD i []).take m)) := by
  obtain ⟨p0, p1, p2, p3, p4, p5, p6, p7, p8⟩ := ha.a1
  exact ⟨below_set h.below (by omega), blk_far h.bk (by show g ≠ gk; omega) _, h.rf.far (p := ⟨gk, i, none⟩) (by show gf ≠ gk; omega) _, h.rl.far (p := ⟨gk, i, none⟩) (by show gl ≠ gk; omega) _, h.ld.cut hi hh hm, fun j hj hg => (Below.heap_setCell _ _ _ _ (by show j ≠ gk; omega)).trans (h.keep j hj hg), h.l1, h.l2, by simp [h.l3]⟩
theorem WkS.grow (h : WkS w0 w wr sz g gk gf gl d v5 v6 n F L hs kids) (ha : WkA w0 w sz g gk gf gl bb) {row : Option Nat} (hg : wr.grownBy W row) (hr : ∀ k, row = some k → bb ≤ k) (hbb : bb ≤ wr.heap.size) : WkS w0 w W sz g gk gf gl d v5 v6 n F L hs kids := by
  obtain ⟨p0, p1, p2, p3, p4, p5, p6, p7, p8⟩ := ha.a1
  have key : ∀ k, k < bb → W.heap[k]? = wr.heap[k]? := fun k hk => hg.block k (by omega) (fun e => by have := hr k e.symm; omega)
  exact ⟨h.below.grown hg h.below.size (fun k hk => by have := hr k hk; omega), by rw [key g (by omega)]; exact h.bk, by show W.heap[gf]? = _; rw [key gf (by omega)]; exact h.rf, by show W.heap[gl]? = _; rw [key gl (by omega)]; exact h.rl, h.ld.keep (fun k hk _ => key k (by omega)) (key gk (by omega)), fun j hj hg => (key j (by omega)).trans (h.keep j hj hg), h.l1, h.l2, h.l3⟩
end
theorem addAt_all {rs : List (List Int)} {c : Nat} {x : Int} {P : Int → Prop} (h : ∀ j, ∀ y ∈ rs.getD j [], P y) (hx : P x) (j : Nat) : ∀ y ∈ (addAt rs c x).getD j [], P y := by
  unfold addAt
  rw [List.getD_eq_getElem?_getD, List.getElem?_set]
  split
  · rename_i e
    split
    · intro y hy
      simp only [Option.getD_some, List.mem_append, List.mem_singleton] at hy
      rcases hy with hy | rfl
      · exact h c y hy
      · exact hx
    · simp
  · rw [← List.getD_eq_getElem?_getD]; exact h j
theorem take_all {rs : List (List Int)} {c m : Nat} {P : Int → Prop} (h : ∀ j, ∀ y ∈ rs.getD j [], P y) (j : Nat) : ∀ y ∈ (rs.set c ((rs.getD c []).take m)).getD j [], P y := by
  rw [List.getD_eq_getElem?_getD, List.getElem?_set]
  split
  · split
    · intro y hy
      exact h c y (List.mem_of_mem_take hy)
    · simp
  · rw [← List.getD_eq_getElem?_getD]; exact h j
theorem getD_last {α : Type} {c z : α} {r : List α} : (c :: r).getD r.length z = (c :: r).getLast (by simp) := by
  rw [List.getLast_eq_getElem]; simp [List.getD_eq_getElem?_getD]
theorem take_last {α : Type} {c : α} {r : List α} : (c :: r).take r.length = (c :: r).dropLast := by
  rw [List.dropLast_eq_take]; simp
theorem kidsF_step {T : List Int} {rs R : List (List Int)} {b k : Nat} (h : R = kidsF T rs b (k + 1)) : R = kidsF T (if 0 ≤ T.getD b 0 then addAt rs (T.getD b 0).toNat (b : Int) else rs) (b + 1) k := h
theorem walkF_nil {k : Nat} {n : Int} {F L : List Int} {kids : List (List Int)} {r : List Int × List Int} (h : walkF k n F L kids [] = some r) : r = (F, L) := by
  cases k with
  | zero => cases h
  | succ k => rw [walkF] at h; injection h with h; exact h.symm
theorem walkF_pos {k : Nat} {n : Int} {F L : List Int} {kids : List (List Int)} {st : List Int} {r : List Int × List Int} (h : walkF k n F L kids st = some r) : ∃ k1, k = k1 + 1 := by
  cases k with
  | zero => cases h
  | succ k => exact ⟨k, rfl⟩
end Go.Proofs.Ytgbeliajhccndaa
set_option linter.unusedVariables false
set_option linter.unusedSimpArgs false
namespace Go.Proofs.Ytgbeliajhccndaa
open Go.RowKit Go.Proofs.YtgbeliajhccndaaW.PrintWords Go.Proofs.YtgbeliajhccndaaW.PrintLast Go.Proofs.YtgbeliajhccndaaW.PrintMore PP

set_option maxRecDepth 100000 in
set_option maxHeartbeats 8000000 in
theorem walk_any (g : Nat) (d : Ck) (v3 v4 v5 v6 : Value) (K : Nat) (T line F L : List Int) (w0 w : World) (h : CkB w0 w g d v3 v4 v5 v6) (hb4 : d.f.f4.length ≤ 2000000) (hg : goodB (waysL d.f) = true) (hK : K ≤ 10000000)
    (hl : lineOf (waysL d.f) K = some line) (ht : treeOf (waysL d.f) K = some T) (hin : line.all (inB (waysL d.f).length) = true) (hln : line.length ≤ 2000000) (hl0 : 0 < line.length) (h2 : ∀ i, i < (waysL d.f).length → ((waysL d.f).getD i []).length ≤ 2)
    (hT : ∀ b, b < T.length → T.getD b 0 < (T.length : Int)) (hF : walkOf T K = some (F, L)) :
    Calls Try.prog 47 #[.pointer (some ⟨g, 0, none⟩)] w fun e w' => e = .returned (.tuple #[]) ∧ Hid (∃ gf gl, CkB w0 w' g d (.slice (some ⟨gf, 0, none⟩) d.f.f4.length d.f.f4.length) (.slice (some ⟨gl, 0, none⟩) d.f.f4.length d.f.f4.length) v5 v6 ∧ RowI w' gf F ∧ RowI w' gl L ∧ F.length = d.f.f4.length ∧ L.length = d.f.f4.length) ∧ Hid (∀ j, j < w.heap.size → j ≠ g → w'.heap[j]? = w.heap[j]?) := by
  obtain ⟨fs, mn, A, c, p, f, A1, c1, A3, c3, A4, c4⟩ := d
  have hck := h.ck
  have HK0 := Lib.hid h
  have HCK := Lib.hid hck
  have hb4' : f.f4.length ≤ 2000000 := hb4
  have hmk2 := fun W => print_make_of (P := Try.prog) 73 34 (.slice none 0 0) 24 Try.underlying73 info34 rfl (by decide) f.f4.length (by omega) W
  have hwl : (waysL f).length = f.f4.length := by simp [waysL]
  have hlw : (waysL f).length ≤ 2000000 := by omega
  have H4 := Lib.hid hb4
  have HB4 := Lib.hid hb4'
  have HG := Lib.hid hg
  have HK := Lib.hid hK
  have HL := Lib.hid hl
  have HT := Lib.hid ht
  have HI := Lib.hid hin
  have HLN := Lib.hid hln
  have HL0 := Lib.hid hl0
  have H2 := Lib.hid h2
  have HTB := Lib.hid hT
  have HF := Lib.hid hF
  have HLW := Lib.hid hlw
  have HWL := Lib.hid hwl
  have y2 : w.cell? ⟨g, 2, none⟩ = some (.pointer (some p)) := hck.y2
  have x4 : w.cell? ⟨p.block, p.off + 4, none⟩ = some (.slice A4 f.f4.length c4) := hck.at_.c4
  have HC1 := Lib.hid (hck.below (below_alloc (Below.refl w.heap.size w) (.cells (madeCells #[.slice none 0 0] f.f4.length) 34)))
  clear h hck hb4 hg hK hl ht hin hln hl0 h2 hT hF hlw hwl
  go_enter Try.func47, Try.ntmps47
  go_wp2_with (first | (go_at_call 37; with_reducible refine Calls.mono (ways_any g ⟨fs, mn, A, c, p, f, A1, c1, A3, c3, A4, c4⟩ v3 v4 v5 v6 _ HC1.out H4.out) ?_; rintro e w1 ⟨Aw, cw, rfl, hcw, hC1, hb1⟩; have HCW := Lib.hid hC1; have HB1 := Lib.hid hb1; clear hC1 hb1) | (go_at_call 71; with_reducible refine Calls.mono (Tree_any Aw cw (waysL f) K T line _ HCW.out HG.out HLW.out HK.out HL.out HT.out HI.out HLN.out HL0.out H2.out) ?_; rintro e w2 ⟨gt, rfl, HR2, hb2⟩; have HB2 := Lib.hid (below_then HB1.out HB1.out.size hb2); have HSZ := Lib.hid hb2.size; clear hb2) | (go_at_call 71; refine stop_intro ?_) | (go_at_call 37; refine stop_intro ?_))
  rw [HWL.out]
  have hTn : T.length = f.f4.length := by have := HR2.out.2.1; have := HWL.out; omega
  have HTN := Lib.hid hTn
  have HKD : Hid (KdW w w2 w2 w.heap.size gt T (List.replicate f.f4.length zH) (List.replicate f.f4.length [])) := Lib.hid (by
    have hs := HB2.out.size
    rw [size_alloc'] at hs
    have hs1 := HB1.out.size
    rw [size_alloc'] at hs1
    have hge := HR2.out.2.2
    exact ⟨below_then (below_alloc (Below.refl _ _) _) (by simp) HB2.out, HR2.out.1, (Ld.made w f.f4.length w2.heap.size).below HB2.out, Nat.le_refl _, by omega, HR2.out.1.lt, by omega, Nat.le_refl _⟩)
  obtain ⟨KO, hKO⟩ : ∃ KO, kidsOf T = KO := ⟨_, rfl⟩
  have HKO0 : Hid (KO = kidsF T (List.replicate f.f4.length []) 0 f.f4.length) := Lib.hid (by rw [← hKO, kidsOf, hTn])
  have HWF : Hid (walkF K 0 (List.replicate f.f4.length 0) (List.replicate f.f4.length 0) KO [0] = some (F, L)) := Lib.hid (by have := HF.out; rw [walkOf, hKO, hTn] at this; exact this)
  have HTB2 : Hid (∀ b, b < f.f4.length → T.getD b 0 < (f.f4.length : Int)) := Lib.hid (by have := HTB.out; rwa [hTn] at this)
  have mfl := HB4.out
  clear hKO hTn y2 x4 hmk2 HF HTB
  obtain ⟨n, hn⟩ : ∃ n, n = f.f4.length := ⟨_, rfl⟩
  rw [← hn] at HKD HKO0 HWF HTB2 mfl HTN ⊢
  have HN := Lib.hid hn
  clear hn
  generalize hgk0 : w.heap.size = gk0 at *
  have HGK := Lib.hid hgk0
  clear hgk0
  go_loopg [5, 6, 25] n (fun k _ _ v wr => ∃ (i : Nat) (hs : List Hd) (rs : List (List Int)), i ≤ n ∧ v = .int .i64 i ∧ Hid (i + k = n) ∧ Hid (KO = kidsF T rs i k) ∧ Hid (KdW w w2 wr gk0 gt T hs rs) ∧ Hid (hs.length = n) ∧ Hid (∀ j, (rs.getD j []).length ≤ i) ∧ Hid (∀ j, ∀ x ∈ rs.getD j [], inB n x = true))
  case atStart => exact ⟨0, _, _, by omega, rfl, Lib.hid (by omega), HKO0, HKD, Lib.hid (by simp), Lib.hid (fun j => by simp [List.getD_eq_getElem?_getD, List.getElem?_replicate]; split <;> simp), Lib.hid (fun j => by simp [List.getD_eq_getElem?_getD, List.getElem?_replicate]; split <;> simp)⟩
  case round =>
    clear HKO0 HKD
    obtain ⟨i, hs, rs, hi, rfl, HJ, HKF, HW, HHL, HNN, HKR⟩ := hrel
    by_cases hlt : i < n
    · obtain ⟨k1, hk1⟩ : ∃ k1, gk = k1 + 1 := ⟨gk - 1, by have := HJ.out; omega⟩
      have HKF2 : Hid (KO = kidsF T (if 0 ≤ T.getD i 0 then addAt rs (T.getD i 0).toNat (i : Int) else rs) (i + 1) k1) := Lib.hid (by have := HKF.out; rw [hk1] at this; exact kidsF_step this)
      have cT := HW.out.tr.cell (i := i) (by have := HTN.out; omega)
      have htb := HTB2.out i hlt
      have HK1 := Lib.hid hk1
      clear hk1
      generalize T.getD i 0 = td at *
      by_cases hneg : 0 ≤ td
      · have HKF3 : Hid (KO = kidsF T (addAt rs td.toNat (i : Int)) (i + 1) k1) := Lib.hid (by have := HKF2.out; rwa [if_pos hneg] at this)
        have hcl : td.toNat < hs.length := by have := HHL.out; omega
        have HCL := Lib.hid hcl
        have hc := HW.out.ld.cell hcl
        obtain ⟨hd, hhd⟩ : ∃ hd, hd = hs.getD td.toNat zH := ⟨_, rfl⟩
        rw [← hhd] at hc
        have HGD := Lib.hid hhd
        unfold encH at hc
        clear hhd hcl
        go_wp2_with (at_builtin; refine stop_intro ?_)
        unfold Stop
        have hR := HW.out.ld.row _ HCL.out
        rw [← HGD.out] at hR
        have hsz := HW.out.b5
        refine Kd.R_append (Kd.int .i64) (w0 := wr) (W := wr) w2.heap.size rfl (.tmp 39) (.tmp 41) 34 3 (.int .i64 0) 8 rfl Try.underlying34 info3 rfl (by decide) (by decide) (encH hd) (rs.getD td.toNat []) (i : Int) [.int .i64 (i : Int)] (fun _ => True) (fun _ => False) rfl rfl rfl (fun _ h => h.elim) (fun _ _ => trivial) hR ?bel hsz ?len ?_
        case bel => exact (Below.refl wr.heap.size wr).mono hsz
        case len => have := HNN.out td.toNat; omega
        intro v1 w4 hR1 _ hg1 hat1
        obtain ⟨A3, k3, e3⟩ := Kd.R_slice hR1
        obtain ⟨h1, hh1⟩ : ∃ h1 : Hd, v1 = encH h1 := ⟨⟨A3, _, k3⟩, e3⟩
        subst hh1
        rw [HGD.out] at hg1 hat1
        have hblk := HW.out.ld.grown_blk HCL.out hg1
        have HW4 := Lib.hid (HW.out.app HCL.out hR1 hg1 hat1)
        have hc3 : w4.cell? ⟨gk0, td.toNat, none⟩ = some (encH hd) := by
          rw [blk_cell hblk, HGD.out]; have := HCL.out; simp [List.getD_eq_getElem?_getD, this]
        have hf3 := blk_frozen hblk td.toNat
        have HN4 := Lib.hid (addAt_len (c := td.toNat) (x := (i : Int)) HNN.out)
        have HN5 := Lib.hid (addAt_all (c := td.toNat) (x := (i : Int)) HKR.out (by simp [inB]; omega))
        clear hblk hg1 hat1 hR hR1 e3 hsz
        obtain ⟨h1a, h1n, h1c⟩ := h1
        obtain ⟨hda, hdn, hdc⟩ := hd
        unfold encH at hc3
        unfold encH
        go_wp2
        go_roundg k1
        case measure => have := HK1.out; omega
        case rel => exact ⟨i + 1, _, _, by omega, by go_num, Lib.hid (by have := HJ.out; have := HK1.out; omega), HKF3, HW4, Lib.hid (by have := HHL.out; simpa using this), HN4, HN5⟩
      · have HKF3 : Hid (KO = kidsF T rs (i + 1) k1) := Lib.hid (by have := HKF2.out; rwa [if_neg hneg] at this)
        go_wp2
        go_roundg k1
        case measure => have := HK1.out; omega
        case rel => exact ⟨i + 1, hs, rs, by omega, by go_num, Lib.hid (by have := HJ.out; have := HK1.out; omega), HKF3, HW, HHL, Lib.hid (fun j => Nat.le_trans (HNN.out j) (by omega)), HKR⟩
    · obtain ⟨wk, hwk⟩ : ∃ wk, wk = wr := ⟨_, rfl⟩
      subst hwk
      have hil : i = n := by omega
      have hg0 : gk = 0 := by have := HJ.out; omega
      have hKR : KO = rs := by have := HKF.out; rw [hg0] at this; exact this
      rw [hKR] at HWF
      clear hKR hil hg0 HKF
      have hKW : CkB w0 w g ⟨fs, mn, A, c, p, f, A1, c1, A3, c3, A4, c4⟩ v3 v4 v5 v6 := HK0.out
      have hgl : g < gk0 := by have := blk_lt hKW.bk; have := HGK.out; omega
      have hbkw := blkB HW.out.below hKW.bk
      have hbel0 : Below w0.heap.size w0 wk := below_then hKW.below hKW.below.size HW.out.below
      have hgw : g < wk.heap.size := blk_lt hbkw
      have HM : Hid (Mk2 w0 wk wk g ⟨fs, mn, A, c, p, f, A1, c1, A3, c3, A4, c4⟩ v3 v4 v5 v6 n []) := Lib.hid ⟨hbel0, hbkw, fun _ _ _ => rfl, fun _ h => by simp at h, Nat.le_refl _⟩
      have HGE : Hid (w0.heap.size ≤ g ∧ g < wk.heap.size ∧ g < gk0) := Lib.hid ⟨hKW.ge, hgw, hgl⟩
      have hmk := fun W => print_make (P := Try.prog) 34 3 .i64 8 Try.underlying34 info3 (by decide) n (by omega) W
      obtain ⟨O2, hO2⟩ : ∃ O2 : Obj, O2 = .cells (madeCells #[.int .i64 0] n) 3 := ⟨_, rfl⟩
      have y3 : wk.cell? ⟨g, 3, none⟩ = some v3 := (blk_cell hbkw 3).trans rfl
      have y4 : wk.cell? ⟨g, 4, none⟩ = some v4 := (blk_cell hbkw 4).trans rfl
      have f3 : wk.frozen? ⟨g, 3, none⟩ = false := blk_frozen hbkw 3
      have f4 : wk.frozen? ⟨g, 4, none⟩ = false := blk_frozen hbkw 4
      have y3a := cellO y3 O2
      have y4a := cellO y4 O2
      have f3a : (wk.alloc O2).frozen? ⟨g, 3, none⟩ = false := frozenO hbkw O2 3
      have f4a : (wk.alloc O2).frozen? ⟨g, 4, none⟩ = false := frozenO hbkw O2 4
      have y3b := cellO y3a O2
      have y4b := cellO y4a O2
      have hbk2 := blkB (below_alloc (Below.refl _ _) O2) hbkw
      have f3b : ((wk.alloc O2).alloc O2).frozen? ⟨g, 3, none⟩ = false := frozenO hbk2 O2 3
      have f4b : ((wk.alloc O2).alloc O2).frozen? ⟨g, 4, none⟩ = false := frozenO hbk2 O2 4
      have y4c := cellSO (p := ⟨g, 3, none⟩) y4a (by simp) (.slice (some ⟨wk.heap.size, 0, none⟩) n n) O2
      have y3d := cellSO (p := ⟨g, 4, none⟩) y3a (by simp) (.slice (some ⟨wk.heap.size, 0, none⟩) n n) O2
      have hbkc := blk_set hbk2 3 (.slice (some ⟨wk.heap.size, 0, none⟩) n n)
      have hbkd := blk_set hbk2 4 (.slice (some ⟨wk.heap.size, 0, none⟩) n n)
      have f4c : (((wk.alloc O2).setCell ⟨g, 3, none⟩ (.slice (some ⟨wk.heap.size, 0, none⟩) n n)).alloc O2).frozen? ⟨g, 4, none⟩ = false := frozenO hbkc O2 4
      have f3d : (((wk.alloc O2).setCell ⟨g, 4, none⟩ (.slice (some ⟨wk.heap.size, 0, none⟩) n n)).alloc O2).frozen? ⟨g, 3, none⟩ = false := frozenO hbkd O2 3
      clear hbk2 hbkc hbkd hbkw hKW hbel0 hgl hgw
      subst hO2
      go_wp2
      clear hlt hi
      go_cut [] (fun wx => Hid (Made2 w0 wk wx g ⟨fs, mn, A, c, p, f, A1, c1, A3, c3, A4, c4⟩ v5 v6 n))
      case first =>
        go_region
        all_goals
          go_wp2
          go_meet
        all_goals
          refine Lib.hid ?_
          apply Made2.of
          case h =>
            apply Mk2.drew
            repeat first | apply Mk2.s3 (hg := HGE.out.1) (h1 := HGE.out.2.1) | apply Mk2.s4 (hg := HGE.out.1) (h1 := HGE.out.2.1) | apply Mk2.alloc (ha := rfl)
            exact HM.out
          all_goals simp
      case rest =>
        clear y3 y4 f3 f4 y3a y4a f3a f4a y3b y4b f3b f4b y4c y3d f4c f3d hmk
        obtain ⟨gf, gl, rows, hM, hgf, hgl, hne⟩ := hcut.out
        have hfr := hM.rows gf hgf
        have hlr := hM.rows gl hgl
        have hgf2 := blk_lt hfr.1
        have hgl2 := blk_lt hlr.1
        have hb2 := HW.out.b2
        have hb5 := HW.out.b5
        have hge := HGE.out
        have hgk := HGK.out
        have hws := HK0.out.below.size
        have HA : Hid (WkA w0 w wk.heap.size g gk0 gf gl wc.heap.size) := Lib.hid ⟨by omega, hne⟩
        have HS0 : Hid (WkS w0 w wc wk.heap.size g gk0 gf gl ⟨fs, mn, A, c, p, f, A1, c1, A3, c3, A4, c4⟩ v5 v6 n (List.replicate n 0) (List.replicate n 0) hs rs) := Lib.hid ⟨hM.below, hM.bk, hfr.1, hlr.1, LdU.of HW.out.ld (g := g) (by omega) (by omega) hM.keep, fun j hj hjg => (hM.keep j (by omega) hjg).trans (HW.out.below.block j hj), by simp, by simp, HHL.out⟩
        obtain ⟨D, hD⟩ : ∃ D : Ck, D = ⟨fs, mn, A, c, p, f, A1, c1, A3, c3, A4, c4⟩ := ⟨_, rfl⟩
        rw [← hD] at HS0
        have HD := Lib.hid hD
        obtain ⟨ow, how⟩ : ∃ ow : Obj, ow = .cells #[.int .i64 0] 3 := ⟨_, rfl⟩
        have HS1 : Hid (WkS w0 w (wc.alloc (.cells #[.int .i64 0] 3)) wk.heap.size g gk0 gf gl D v5 v6 n (List.replicate n 0) (List.replicate n 0) hs rs) := Lib.hid (HS0.out.grow (row := none) HA.out (grown_of_below (below_alloc (Below.refl _ _) _) none) (by simp) (Nat.le_refl _))
        have HV1 : Hid ((wc.alloc (.cells #[.int .i64 0] 3)).ownsRow wc.heap.size 3 1 (.slice (some ⟨wc.heap.size, 0, none⟩) 1 1) 1 (nums .i64 [0])) := Lib.hid (own_lit wc wc.heap.size 3 .i64 [0] (Nat.le_refl _) (by simp))
        have HZ : Hid (wc.heap.size ≤ (wc.alloc (.cells #[.int .i64 0] 3)).heap.size) := Lib.hid (by simp)
        have HN0 : Hid (0 < n) := Lib.hid (by have h1 := HG.out; unfold goodB at h1; simp only [Bool.and_eq_true, decide_eq_true_eq] at h1; have := HN.out; have := HWL.out; omega)
        have mK := HK.out
        clear hM hfr hlr hgf2 hgl2 hb2 hb5 hge hgk hws hgf hgl hcut hD how HW HM HS0 hne
        go_wp2
        generalize wk.heap.size = sz at *
        generalize wc.heap.size = bb at *
        go_loopg [7, 8, 9, 10] K (fun k v7 v8 _ _ wr => ∃ (m : Int) (st : List Int) (F1 L1 : List Int) (hs : List Hd) (kids : List (List Int)), v7 = .int .i64 m ∧ Hid (walkF k m F1 L1 kids st = some (F, L)) ∧ Hid (WkS w0 w wr sz g gk0 gf gl D v5 v6 n F1 L1 hs kids) ∧ Hid (wr.ownsRow bb 3 1 v8 st.length (nums .i64 st.reverse)) ∧ Hid (0 ≤ m ∧ m + k ≤ K ∧ st.length + k ≤ K + 1) ∧ Hid (∀ x ∈ st, inB n x = true) ∧ Hid (∀ j, ∀ x ∈ kids.getD j [], inB n x = true) ∧ Hid (bb ≤ wr.heap.size))
        case atStart => exact ⟨0, [0], _, _, _, _, rfl, HWF, HS1, HV1, Lib.hid ⟨by omega, by omega, by simp; omega⟩, Lib.hid (fun x hx => by simp at hx; subst hx; have := HN0.out; simp [inB]; omega), HKR, HZ⟩
        case round =>
          clear HS1 HV1
          obtain ⟨m, st, F1, L1, hs, kids, rfl, HWF, HS, HV, HC, HI, HKR, HZ⟩ := hrel
          match st, HWF, HV, HC, HI with
          | [], HWF, HV, HC, HI =>
            obtain ⟨A8, c8, hv8⟩ := own_slice HV.out
            obtain rfl := hv8
            have hE := walkF_nil HWF.out
            injection hE with hE1 hE2
            rw [← hE1, ← hE2] at HS
            clear hE1 hE2 HWF
            go_wp2
            go_end0
            refine ⟨rfl, Lib.hid ⟨gf, gl, ?_⟩, Lib.hid HS.out.keep⟩
            have hS := HS.out
            have hD := HD.out
            subst hD
            have hnn := HN.out
            subst hnn
            exact ⟨⟨HK0.out.at_, HK0.out.fs_, HK0.out.hc, hS.below, HK0.out.ge, hS.bk⟩, hS.rf, hS.rl, hS.l1, hS.l2⟩
          | b :: st, HWF, HV, HC, HI =>
            obtain ⟨k1, hk1⟩ := walkF_pos HWF.out
            have hb := HI.out b (by simp)
            obtain ⟨b0, b1⟩ := inB_iff hb
            obtain ⟨m2, F2, hm2, hF2, hW2⟩ : ∃ m2 F2, (if F1.getD b.toNat 0 = 0 then m + 1 else m) = m2 ∧ (if F1.getD b.toNat 0 = 0 then F1.set b.toNat (m + 1) else F1) = F2 ∧ (match kids.getD b.toNat [] with
               | [] => walkF k1 m2 F2 (L1.set b.toNat m2) kids st
               | c :: r => walkF k1 m2 F2 L1 (kids.set b.toNat (c :: r).dropLast) ((c :: r).getLast (by simp) :: b :: st)) = some (F, L) := ⟨_, _, rfl, rfl, by have := HWF.out; rw [hk1, walkF] at this; exact this⟩
            obtain ⟨gv, cap, hv8, hcap, hgb, hgs, hmax⟩ := own_form HV.out (by simp)
            obtain rfl := hv8
            have hV := HV.out
            rw [List.length_cons] at hV hcap ⊢
            obtain ⟨q, hq⟩ : ∃ q, q = st.length := ⟨_, rfl⟩
            rw [← hq] at hV hcap ⊢
            have c8 := (own_at hV (q : Int) (by omega) (by omega)).1
            have hrd : rd (b :: st).reverse (q : Int) = b := by rw [hq]; simp [rd, List.getD_eq_getElem?_getD]
            rw [hrd, Int.toNat_natCast] at c8
            have HV := Lib.hid hV
            have HQ := Lib.hid hq
            have HK1 := Lib.hid hk1
            have HW2 := Lib.hid hW2
            have HM2 := Lib.hid hm2
            have HF2 := Lib.hid hF2
            have HB := Lib.hid hb
            have hcq : q ≤ 10000000 := by have := HC.out.2.2; rw [List.length_cons] at this; omega
            have hcm : 0 ≤ m ∧ m ≤ 10000000 := by have := HC.out.1; have := HC.out.2.1; omega
            obtain ⟨hm0, hm1⟩ := hcm
            have cF := HS.out.rf.cell (i := b.toNat) (by have := HS.out.l1; omega)
            have fF := HS.out.rf.frozen b.toNat
            have y3 : wr.cell? ⟨g, 3, none⟩ = some (.slice (some ⟨gf, 0, none⟩) n n) := (blk_cell HS.out.bk 3).trans rfl
            have HGV : Hid (some gf ≠ (Value.slice (some ⟨gv, 0, none⟩) (q + 1) cap).ownBlock) := Lib.hid (by have := HA.out.a1; simp [Value.ownBlock]; omega)
            obtain ⟨f0, hf0⟩ : ∃ f0, F1.getD b.toNat 0 = f0 := ⟨_, rfl⟩
            rw [hf0] at cF HM2 HF2
            clear hk1 hm2 hF2 hW2 hV hq hrd hb HWF hf0 hgs hmax
            go_upto_if 72 with (fail)
            go_cut [7] (fun v wx => v = .int .i64 m2 ∧ Hid (WkS w0 w wx sz g gk0 gf gl D v5 v6 n F2 L1 hs kids) ∧ Hid (wx.ownsRow bb 3 1 (.slice (some ⟨gv, 0, none⟩) (q + 1) cap) (q + 1) (nums .i64 (b :: st).reverse)) ∧ Hid (bb ≤ wx.heap.size))
            case first =>
              by_cases hz : f0 = 0
              · subst hz
                go_wp2
                go_meet
                refine ⟨by rw [← HM2.out]; simp, Lib.hid ?_, Lib.hid (own_setCell HV.out HGV.out _), Lib.hid (by have := HZ.out; simpa [World.setCell] using this)⟩
                have hF2 := HF2.out
                simp only [if_true] at hF2
                rw [← hF2]
                exact HS.out.setF HA.out b.toNat (m + 1)
              · have hz1 : (f0 == 0) = false := by simpa using hz
                go_wp2
                go_meet
                refine ⟨by rw [← HM2.out, if_neg hz], Lib.hid ?_, HV, HZ⟩
                rw [← HF2.out, if_neg hz]
                exact HS.out
            case rest =>
              obtain ⟨rfl, HS2, HV2, HZ2⟩ := hcut
              have hm2 : 0 ≤ m2 ∧ m2 ≤ m + 1 := by have := HM2.out; split at this <;> omega
              have HM3 := Lib.hid hm2
              have hcl : b.toNat < hs.length := by have := HS2.out.l3; omega
              have hc := HS2.out.ld.ld.cell hcl
              obtain ⟨e1, e2, e3⟩ := HS2.out.ld.ld.C hcl
              obtain ⟨hd, hhd⟩ : ∃ hd, hs.getD b.toNat zH = hd := ⟨_, rfl⟩
              rw [hhd] at hc e1 e2 e3
              have HHD := Lib.hid hhd
              have HCL := Lib.hid hcl
              obtain ⟨hda, hdn, hdc⟩ := hd
              unfold encH at hc
              simp only at e1 e2 e3 hc
              subst e1
              clear hhd hcl hm2 cF fF y3 c8
              obtain ⟨R, hR⟩ : ∃ R, kids.getD b.toNat [] = R := ⟨_, rfl⟩
              have HKB := Lib.hid hR
              have HW3 := HW2
              rw [hR] at HW3 hc e2 e3 HHD
              have HRI : Hid (∀ x ∈ R, inB n x = true) := Lib.hid (by rw [← hR]; exact HKR.out _)
              have mR := e3.2.1
              have HE3 := Lib.hid e3
              clear hR HW2 e3
              cases R with
              | nil =>
                have cL := HS2.out.rl.cell (i := b.toNat) (by have := HS2.out.l2; omega)
                have fL := HS2.out.rl.frozen b.toNat
                have y4 : wc.cell? ⟨g, 4, none⟩ = some (.slice (some ⟨gl, 0, none⟩) n n) := (blk_cell HS2.out.bk 4).trans rfl
                have HS4 := Lib.hid (HS2.out.setL HA.out b.toNat m2)
                have HGV2 : Hid (some gl ≠ (Value.slice (some ⟨gv, 0, none⟩) (q + 1) cap).ownBlock) := Lib.hid (by have := HA.out.a1; simp [Value.ownBlock]; omega)
                obtain ⟨i3, hi3, _⟩ := Option.map_eq_some_iff.1 info3
                have hct : ∀ W : World, (Instr.slice 34 (.slice (some ⟨gv, 0, none⟩) (q + 1) cap) none (some (.int .i64 (q : Int))) none).run Try.prog W = .ok (.slice (some ⟨gv, 0, none⟩) q cap) W := by
                  intro W
                  have h5 := cut_to (P := Try.prog) 34 3 .i64 Try.underlying34 hi3 (some ⟨gv, 0, none⟩) (q + 1) cap (q : Int) (by omega) (by omega) hcap W
                  rwa [Int.toNat_natCast] at h5
                clear hi3
                go_wp2
                go_roundg k1
                case measure => have := HK1.out; omega
                case rel =>
                  refine ⟨m2, st, F2, _, hs, kids, rfl, HW3, HS4, Lib.hid ?_, Lib.hid ?_, Lib.hid (fun y hy => HI.out y (by simp [hy])), HKR, Lib.hid (by have := HZ2.out; simpa [World.setCell] using this)⟩
                  · have h5 := own_take (m := q) (own_setCell (p := ⟨gl, b.toNat, none⟩) HV2.out HGV2.out (.int .i64 m2)) (by omega)
                    have h6 : (nums .i64 (b :: st).reverse).take (q * 1) = nums .i64 st.reverse := by
                      rw [HQ.out]; simp [nums, List.map_append]
                    rw [h6] at h5
                    rw [← HQ.out]
                    exact h5
                  · have := HC.out; have := HK1.out; have := HM3.out; simp at *; omega
              | cons y r =>
                obtain ⟨ad, hA, cR⟩ := int_at (i := r.length) HE3.out (by simp)
                rw [getD_last] at cR
                obtain ⟨z, hz⟩ : ∃ z, (y :: r).getLast (by simp) = z := ⟨_, rfl⟩
                have HW4 : Hid (walkF k1 m2 F2 L1 (kids.set b.toNat (y :: r).dropLast) (z :: b :: st) = some (F, L)) := Lib.hid (by rw [← hz]; exact HW3.out)
                have HZI : Hid (inB n z = true) := Lib.hid (by rw [← hz]; exact HRI.out _ (List.getLast_mem _))
                rw [hz] at cR
                rw [List.length_cons] at hc mR e2 HHD
                obtain rfl := hA
                have HRL := Lib.hid (⟨r.length, rfl⟩ : ∃ u, u = r.length)
                obtain ⟨u, hu⟩ := HRL.out
                rw [← hu] at hc mR e2 cR HHD
                have HU := Lib.hid hu
                clear hz hu HW3 HRL
                go_wp2_with (at_builtin; refine stop_intro ?_)
                unfold Stop
                have hVL : ((b :: st).reverse).length = q + 1 := by rw [HQ.out]; simp
                refine print_append_num (w0 := wc) bb rfl (.tmp 89) (.tmp 98) 34 3 .i64 8 rfl Try.underlying34 info3 (by decide) (.slice (some ⟨gv, 0, none⟩) (q + 1) cap) (b :: st).reverse z rfl rfl (by rw [hVL]; exact HV2.out) ((Below.refl wc.heap.size wc).mono HZ2.out) HZ2.out ?len ?_
                case len => rw [hVL]; omega
                intro v1 w4 hV4 hB4 hg4 hat4
                have HS4 := Lib.hid (HS2.out.grow HA.out hg4 (fun k hk => by simp [Value.ownBlock] at hk; omega) HZ2.out)
                have hcl := HCL.out
                have hc4 := HS4.out.ld.ld.cell hcl
                rw [HHD.out] at hc4
                unfold encH at hc4
                have f4 := blk_frozen HS4.out.ld.ld.blk b.toNat
                have HS5 := Lib.hid (HS4.out.cut HA.out hcl HHD.out (m := u) (by omega))
                obtain ⟨i3, hi3, _⟩ := Option.map_eq_some_iff.1 info3
                have hct : ∀ W : World, (Instr.slice 34 (.slice (some ad) (u + 1) hdc) none (some (.int .i64 (u : Int))) none).run Try.prog W = .ok (.slice (some ad) u hdc) W := by
                  intro W
                  have h5 := cut_to (P := Try.prog) 34 3 .i64 Try.underlying34 hi3 (some ad) (u + 1) hdc (u : Int) (by omega) (by omega) e2 W
                  rwa [Int.toNat_natCast] at h5
                have HV5 : Hid ((w4.setCell ⟨gk0, b.toNat, none⟩ (.slice (some ad) u hdc)).ownsRow bb 3 1 v1 (z :: b :: st).length (nums .i64 (z :: b :: st).reverse)) := Lib.hid (by
                  have h6 : (z :: b :: st).reverse = (b :: st).reverse ++ [z] := by simp
                  rw [h6, ← List.length_reverse, h6]
                  refine own_setCell hV4 (fun e => ?_) _
                  have h7 := own_base hV4 gk0 e.symm
                  have := HA.out.a1
                  omega)
                have HZ5 : Hid (bb ≤ (w4.setCell ⟨gk0, b.toNat, none⟩ (.slice (some ad) u hdc)).heap.size) := Lib.hid (by have := HZ2.out; have := hg4.size; simp [World.setCell]; omega)
                have HKE : Hid (kids.set b.toNat ((kids.getD b.toNat []).take u) = kids.set b.toNat (y :: r).dropLast) := Lib.hid (by rw [HKB.out, HU.out, take_last])
                clear hi3 hV4 hB4 hg4 hat4 hVL hcl hc cR
                go_wp2
                go_roundg k1
                case measure => have := HK1.out; omega
                case rel =>
                  refine ⟨m2, z :: b :: st, F2, L1, _, _, rfl, ?_, HS5, HV5, Lib.hid ?_, Lib.hid ?_, Lib.hid (take_all HKR.out), HZ5⟩
                  · rw [HKE.out]; exact HW4
                  · have := HC.out; have := HK1.out; have := HM3.out; simp at *; omega
                  · intro x hx
                    rw [List.mem_cons] at hx
                    rcases hx with rfl | hx
                    · exact HZI.out
                    · exact HI.out x hx
end Go.Proofs.Ytgbeliajhccndaa
