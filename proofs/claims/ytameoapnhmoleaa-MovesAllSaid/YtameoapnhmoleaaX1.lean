/- The heap of first (container/heap over moves.first): Len, Less, Swap, Push, Pop (chapter 13). The heap of first: Push, Pop, the methods behind the interface (chapter 13). container/heap over moves.first: up, down (chapter 13). container/heap over moves.first: down, Push, Pop (chapter 13). container/heap over moves.first: Push, Pop (chapter 13). The heap as a list (plain; chapter 13). A map from places to numbers (map[api.Loc]int): what its operations do (chapter 13). moves.refuse (chapter 13). moves.work in memory; free (chapter 13). moves.work.free (chapter 13). moves.work.put (chapter 13). -/
import Derived.Test.YtameoapnhmoleaaPP0
import Derived.WideLaws
import Derived.Lib.Hide
import Derived.Outline
import Derived.Deep.RegionWith
import Derived.RegionTactic
import Derived.Deep.AppendLies
import Derived.Deep.RegionLaw
import Derived.Test.YtameoapnhmoleaaPP1
import Derived.Test.YtameoapnhmoleaaPP2
import Derived.Test.YtameoapnhmoleaaPP3
import Derived.Deep.QuietTactic
import Derived.BigQuiet
set_option linter.unusedVariables false
set_option linter.unusedSimpArgs false
namespace Go.Proofs.Ytameoapnhmoleaa
open Go.RowKit Go.Proofs.YtameoapnhmoleaaW.PrintWords Go.Proofs.YtameoapnhmoleaaW.PrintLast Go.Proofs.YtameoapnhmoleaaW.PrintMore

/-- What a call leaves: the outside, the tape, and all blocks but those of S. -/
def Fr (w w' : World) (S : Nat → Prop) : Prop := w'.os = w.os ∧ w'.tape = w.tape ∧ w'.output = w.output ∧ Kept w w' S
section
variable {w w1 w2 : World} {S S2 : Nat → Prop}
theorem Fr.refl (w : World) (S : Nat → Prop) : Fr w w S := ⟨rfl, rfl, rfl, Kept.refl w S⟩
theorem Fr.then_ (h : Fr w w1 S) (k : Fr w1 w2 S2) (hs : ∀ k, S2 k → S k ∨ w.heap.size ≤ k) : Fr w w2 S :=
  ⟨k.1.trans h.1, k.2.1.trans h.2.1, k.2.2.1.trans h.2.2.1, h.2.2.2.then_ k.2.2.2 hs⟩
theorem Fr.mono (h : Fr w w1 S) (hs : ∀ k, S k → S2 k) : Fr w w1 S2 := ⟨h.1, h.2.1, h.2.2.1, h.2.2.2.mono hs⟩
theorem Fr.of_below (h : Below w.heap.size w w1) (S : Nat → Prop) : Fr w w1 S := ⟨h.os, h.tape, h.output, Kept.of_below h S⟩
theorem Fr.of_grown {row : Option Nat} (h : w.grownBy w1 row) (hS : ∀ k, row = some k → S k) : Fr w w1 S := ⟨h.os, h.tape, h.output, h.size, fun i hi hn => h.block i hi (fun e => hn (hS i e.symm))⟩
theorem Fr.drewN (h : Fr w w1 S) (n : Nat) : Fr w (w1.drewN n) S := h
theorem Fr.alloc (h : Fr w w1 S) (o : Obj) : Fr w (w1.alloc o) S := h.then_ (S2 := fun _ => False) (Fr.of_below ((Below.refl _ _).alloc (Nat.le_refl _) o) _) (fun _ hk => hk.elim)
theorem Fr.set (h : Fr w w1 S) {p : Addr} (hp : S p.block ∨ w.heap.size ≤ p.block) (u : Value) : Fr w (w1.setCell p u) S :=
  ⟨h.1, h.2.1, h.2.2.1, h.2.2.2.setCell hp u⟩
theorem Fr.below (h : Fr w w1 S) (hS : ∀ k, S k → w.heap.size ≤ k) : Below w.heap.size w w1 :=
  ⟨h.1, h.2.1, h.2.2.1, h.2.2.2.1, fun i hi => h.2.2.2.2 i hi (fun hk => by have := hS i hk; omega)⟩
theorem Fr.size (h : Fr w w1 S) : w.heap.size ≤ w1.heap.size := h.2.2.2.1
theorem Fr.blk {g : Nat} {o : Obj} (h : Fr w w1 S) (hb : w.heap[g]? = some o) (hg : ¬ S g) : w1.heap[g]? = some o := blk_kept hb h.2.2.2 hg
end
theorem ret_bool {a b : Bool} (h : a = b) : Ending.returned (.bool a) = .returned (.bool b) := by rw [h]

def kI : Kd Int := Kd.int .i64
set_option maxHeartbeats 1000000 in
theorem less_any (A : Option Addr) (n c : Nat) (xs : List Int) (i j : Nat) (w : World) (hr : ReadsInt w .i64 A n xs) (hi : i < n) (hj : j < n) :
    Calls Try.prog 55 #[.slice A n c, .int .i64 (i : Int), .int .i64 (j : Int)] w fun e w' => e = .returned (.bool (decide (rd xs i < rd xs j))) ∧ ∃ q, w' = w.drewN q := by
  obtain ⟨ad, hA, h1⟩ := hr.at_ (i : Int) (by omega) (by omega)
  obtain ⟨ad2, hA2, h2⟩ := hr.at_ (j : Int) (by omega) (by omega)
  obtain rfl := hA
  injection hA2 with hA2
  subst hA2
  rw [Int.toNat_natCast] at h1 h2
  have hn := hr.2.1
  clear hr
  generalize rd xs i = x at *
  generalize rd xs j = y at *
  have hi2 : (i : Int) < (n : Int) := by omega
  have hj2 : (j : Int) < (n : Int) := by omega
  go_enter Try.func55, Try.ntmps55
  go_wp2
  go_quiet (fail)
  go_wp2
  go_ret
  exact ⟨rfl, nq, rfl⟩
set_option maxHeartbeats 1000000 in
theorem len_any (A : Option Addr) (n c : Nat) (w : World) :
    Calls Try.prog 54 #[.slice A n c] w fun e w' => e = .returned (.int .i64 n) ∧ w = w' := by
  go_enter Try.func54, Try.ntmps54
  go_wp2
  go_ret
  exact ⟨rfl, rfl⟩
theorem kI_put {g n c base : Nat} {ok : Nat → Prop} {xs : List Int} {w : World} (h : kI.R 3 w base ok (.slice (some ⟨g, 0, none⟩) n c) xs) (i : Nat) (x : Int) :
    kI.R 3 (w.setCell ⟨g, i, none⟩ (.int .i64 x)) base ok (.slice (some ⟨g, 0, none⟩) n c) (xs.set i x) := Kd.R_putn (enc := Value.int .i64) (h1 := fun _ => rfl) h (i : Int) x
theorem kI_cell {g n c base : Nat} {ok : Nat → Prop} {xs : List Int} {w : World} (h : kI.R 3 w base ok (.slice (some ⟨g, 0, none⟩) n c) xs) (i : Nat) (hi : i < n) :
    w.cell? ⟨g, i, none⟩ = some (.int .i64 (rd xs i)) ∧ w.frozen? ⟨g, i, none⟩ = false := Kd.R_celln (enc := Value.int .i64) (h1 := fun _ => rfl) (0 : Int) h (i : Int) (by omega) (by omega)
def swapL (xs : List Int) (i j : Nat) : List Int := (xs.set i (rd xs j)).set j (rd xs i)
theorem swap_comm (xs : List Int) (i j : Nat) : (xs.set j (rd xs i)).set i (rd xs j) = swapL xs i j := by
  unfold swapL
  by_cases h : i = j
  · subst h; rfl
  · exact (List.set_comm _ _ h).symm
set_option maxHeartbeats 4000000 in
theorem swap_any (g n c base : Nat) (ok : Nat → Prop) (xs : List Int) (i j : Nat) (w : World) (hR : kI.R 3 w base ok (.slice (some ⟨g, 0, none⟩) n c) xs) (hi : i < n) (hj : j < n) :
    Calls Try.prog 56 #[.slice (some ⟨g, 0, none⟩) n c, .int .i64 (i : Int), .int .i64 (j : Int)] w fun e w' => e = .returned (.tuple #[]) ∧ kI.R 3 w' base ok (.slice (some ⟨g, 0, none⟩) n c) (swapL xs i j) ∧ Fr w w' (fun k => k = g) := by
  have hn : n = xs.length := (Kd.R_reads' hR).1
  obtain ⟨h1', f1⟩ := kI_cell hR i hi
  obtain ⟨h2', f2⟩ := kI_cell hR j hj
  have HR := Lib.hid hR
  clear hR
  obtain ⟨v1, hv1⟩ := cell?_setCell_some (w := w) (p := ⟨g, i, none⟩) (x := .int .i64 (rd xs j)) (q := ⟨g, j, none⟩) (v := .int .i64 (rd xs j)) (by go_simp)
  obtain ⟨v2, hv2⟩ := cell?_setCell_some (w := w) (p := ⟨g, j, none⟩) (x := .int .i64 (rd xs i)) (q := ⟨g, i, none⟩) (v := .int .i64 (rd xs i)) (by go_simp)
  generalize hX : rd xs i = x at *
  generalize hY : rd xs j = y at *
  have HX := Lib.hid hX
  have HY := Lib.hid hY
  clear hX hY
  have hi2 : (i : Int) < (n : Int) := by omega
  have hj2 : (j : Int) < (n : Int) := by omega
  go_enter Try.func56, Try.ntmps56
  go_wp2
  go_region
  go_end0
  refine ⟨rfl, ?_, ?_⟩
  · have := kI_put (kI_put HR.out i y) j x
    unfold swapL
    rw [HX.out, HY.out]
    exact Kd.R_drew this
  · exact Fr.drewN (Fr.set (p := ⟨g, j, none⟩) (Fr.set (p := ⟨g, i, none⟩) (Fr.refl w (fun k => k = g)) (.inl rfl) _) (.inl rfl) _) 1
end Go.Proofs.Ytameoapnhmoleaa
set_option linter.unusedVariables false
set_option linter.unusedSimpArgs false
namespace Go.Proofs.Ytameoapnhmoleaa
open Go.RowKit Go.Proofs.YtameoapnhmoleaaW.PrintWords Go.Proofs.YtameoapnhmoleaaW.PrintLast Go.Proofs.YtameoapnhmoleaaW.PrintMore

/-- A cell of a block of the call's own holds a slice of ints of the call's own. -/
structure HeapAt (w : World) (base B o : Nat) (T : TypeId) (cs : Array Value) (v : Value) (xs : List Int) : Prop where
  blk : w.heap[B]? = some (.cells cs T (0, 0))
  at_ : cs[o]? = some v
  row : kI.R 3 w base (fun k => k ≠ B) v xs
/-- What a call on it leaves: the cell with another slice; all else as it was. -/
def HeapTo (w w' : World) (base B o : Nat) (T : TypeId) (cs : Array Value) (v v' : Value) (xs' : List Int) : Prop :=
  HeapAt w' base B o T (cs.setIfInBounds o v') v' xs' ∧ (v'.ownBlock = v.ownBlock ∨ ∃ b, v'.ownBlock = some b ∧ w.heap.size ≤ b) ∧ Fr w w' (fun k => k = B ∨ some k = v.ownBlock)
section
variable {w w' w1 : World} {base B o : Nat} {T : TypeId} {cs : Array Value} {v v' : Value} {xs xs' : List Int}
theorem HeapAt.cell (h : HeapAt w base B o T cs v xs) : w.cell? ⟨B, o, none⟩ = some v := by rw [blk_cell h.blk]; exact h.at_
theorem HeapAt.free (h : HeapAt w base B o T cs v xs) : w.frozen? ⟨B, o, none⟩ = false := blk_frozen h.blk o
theorem HeapAt.drewN (h : HeapAt w base B o T cs v xs) (n : Nat) : HeapAt (w.drewN n) base B o T cs v xs := ⟨h.blk, h.at_, Kd.R_drewN h.row n⟩
theorem HeapAt.alloc (h : HeapAt w base B o T cs v xs) (ob : Obj) : HeapAt (w.alloc ob) base B o T cs v xs := ⟨blk_alloc h.blk ob, h.at_, Kd.R_alloc h.row ob⟩
theorem HeapAt.slice (h : HeapAt w base B o T cs v xs) : ∃ A c, v = .slice A xs.length c ∧ xs.length ≤ c ∧ ReadsInt w .i64 A xs.length xs := by
  obtain ⟨A, c, e, hc, hC⟩ := Kd.R_reads h.row
  exact ⟨A, c, e, hc, Kd.reads_of_C (enc := Value.int .i64) (h1 := fun _ => rfl) (d := (0 : Int)) hC⟩
theorem HeapAt.ne (h : HeapAt w base B o T cs v xs) : some B ≠ v.ownBlock := Kd.R_away h.row (fun k hk => hk)
theorem setIf_same (cs : Array Value) (o : Nat) (v : Value) (h : cs[o]? = some v) : cs.setIfInBounds o v = cs := by
  have hl := (Array.getElem?_eq_some_iff.1 h)
  obtain ⟨h1, h2⟩ := hl
  apply Array.ext
  · simp
  · intro i hi1 hi2
    by_cases hio : o = i
    · subst hio
      rw [Array.getElem_setIfInBounds_self, h2]
    · rw [Array.getElem_setIfInBounds_ne _ hio]
theorem HeapTo.refl (h : HeapAt w base B o T cs v xs) : HeapTo w w base B o T cs v v xs := ⟨by rw [setIf_same cs o v h.at_]; exact h, .inl rfl, Fr.refl w _⟩
theorem HeapTo.drewN (h : HeapTo w w' base B o T cs v v' xs) (n : Nat) : HeapTo w (w'.drewN n) base B o T cs v v' xs := ⟨h.1.drewN n, h.2.1, h.2.2⟩
theorem setIf_setIf (cs : Array Value) (o : Nat) (u v : Value) : (cs.setIfInBounds o u).setIfInBounds o v = cs.setIfInBounds o v := by
  apply Array.ext
  · simp
  · intro i hi1 hi2
    by_cases hio : o = i
    · subst hio; simp
    · simp [Array.getElem_setIfInBounds, hio]
theorem HeapTo.then_ {v2 : Value} {xs2 : List Int} (h : HeapTo w w1 base B o T cs v v' xs') (k : HeapTo w1 w' base B o T (cs.setIfInBounds o v') v' v2 xs2) : HeapTo w w' base B o T cs v v2 xs2 := by
  refine ⟨by have := k.1; rwa [setIf_setIf] at this, ?_, h.2.2.then_ k.2.2 ?_⟩
  · rcases k.2.1 with e | ⟨b, e, hb⟩
    · rcases h.2.1 with e2 | ⟨b, e2, hb⟩
      · exact .inl (e.trans e2)
      · exact .inr ⟨b, e.trans e2, hb⟩
    · exact .inr ⟨b, e, Nat.le_trans h.2.2.size hb⟩
  · rintro k (rfl | hk)
    · exact .inl (.inl rfl)
    · rcases h.2.1 with e2 | ⟨b, e2, hb⟩
      · exact .inl (.inr (hk.trans e2))
      · rw [e2] at hk
        injection hk with hk
        exact .inr (hk ▸ hb)
end
section
variable {P : Program} {ops : Array Oper} {o : Oper} {a : Act} {Q : Exit → Act → World → Prop} {Kc : Act → World → Prop} {α : Type} {E : Prop}
/-- append at a step of a region, the world in whatever spelling. -/
theorem app_step (d : Kd α) {W' : World} (W : World) (base : Nat) (hgd : o.guard = none) (s x : Operand) (t e : TypeId) (z : Value) (bytes : Nat)
    (ho : o.op = .call { callee := .builtin .append, args := #[s, x], argTypes := #[t, t] })
    (ht : P.underlying t = some (.slice e)) (hinfo : (P.info? e).map (fun i => (i.zero, i.size, i.bytes)) = some (some z, d.sz, bytes)) (hz : z.cells.size = d.sz) (hs0 : 0 < d.sz) (hb0 : 0 < bytes)
    (v : Value) (xs : List α) (p : α) (cs : List Value) (hW : W' = W.alloc (.cells cs.toArray e)) (ok : Nat → Prop) (hs : a.eval s = v) (hx : a.eval x = .slice (some ⟨W.heap.size, 0, none⟩) 1 1) (hp : d.M W base (fun _ => False) p cs) (hfresh : ∀ k, W.heap.size ≤ k → ok k)
    (HO : d.R e W base ok v xs) (hbase : base ≤ W.heap.size) (hl : (xs.length + 1) * bytes ≤ 140737488355328)
    (h : ∀ v1 w1, d.R e w1 base ok v1 (xs ++ [p]) → W.grownBy w1 v.ownBlock → (v1.ownBlock = v.ownBlock ∨ ∃ b, v1.ownBlock = some b ∧ W.heap.size ≤ b) → Kc (a.put o.dst v1) w1) :
    if Region.wanted o (yielded ops a.tmps) = true then Oper.wp P o a W' Kc Q else E := by
  subst hW
  have hw : Region.wanted o (yielded ops a.tmps) = true := by simp [Region.wanted, hgd]
  have := Kd.R_append_step (P := P) (ops := ops) (o := o) (a := a) (Q := Q) (Kc := Kc) d (w0 := W) base hw s x t e z bytes ho ht hinfo hz hs0 hb0 v xs p cs ok (fun _ => False) hs hx hp (fun _ h => h.elim) hfresh HO (Below.refl _ _) hbase hl (fun v1 w1 h1 _ h2 h3 => h v1 w1 h1 h2 h3)
  rw [if_pos hw] at this ⊢
  exact this
end
theorem hta (x : Int) (w : World) : (Instr.typeAssert (.iface 3 (.int .i64 x)) 20 3 false).run Try.prog w = .ok (.int .i64 x) w := by kernel_rfl
theorem info3 : (Try.prog.info? 3).map (fun i => (i.zero, i.size, i.bytes)) = some (some (.int .i64 0), 1, 8) := by kernel_rfl
/-- The cell is written with the row that an append has made. -/
theorem push_end {w wA w1 : World} {base B o : Nat} {T : TypeId} {cs : Array Value} {v v1 : Value} {xs : List Int} {x : Int} (h : HeapAt w base B o T cs v xs) (hA : Fr w wA (fun _ => False)) (hR : kI.R 3 w1 base (fun k => k ≠ B) v1 (xs ++ [x])) (hg : wA.grownBy w1 v.ownBlock)
    (hat : v1.ownBlock = v.ownBlock ∨ ∃ b, v1.ownBlock = some b ∧ wA.heap.size ≤ b) : HeapTo w (w1.setCell ⟨B, o, none⟩ v1) base B o T cs v v1 (xs ++ [x]) := by
  have hb1 : w1.heap[B]? = some (.cells cs T (0, 0)) := blk_grown (hA.blk h.blk (fun h => h)) hg h.ne
  have ho : o < cs.size := (Array.getElem?_eq_some_iff.1 h.at_).1
  refine ⟨⟨blk_set hb1 o v1, by simp [ho], Kd.R_far hR (fun k hk => hk) v1⟩, ?_, ?_⟩
  · exact hat.imp id (fun ⟨b, e, hb⟩ => ⟨b, e, Nat.le_trans hA.size hb⟩)
  · refine Fr.set ?_ (.inl (.inl rfl)) v1
    exact (hA.mono (fun _ hk => hk.elim)).then_ (Fr.of_grown hg (S := fun k => some k = v.ownBlock) (fun k hk => hk.symm)) (fun k hk => .inl (.inr hk))
set_option maxHeartbeats 4000000 in
theorem push_any (base B o : Nat) (T : TypeId) (cs : Array Value) (v : Value) (xs : List Int) (x : Int) (w : World) (h : HeapAt w base B o T cs v xs) (hbw : base ≤ w.heap.size) (hl : xs.length ≤ 1000000) :
    Calls Try.prog 58 #[.pointer (some ⟨B, o, none⟩), .iface 3 (.int .i64 x)] w fun e w' => e = .returned (.tuple #[]) ∧ ∃ v', HeapTo w w' base B o T cs v v' (xs ++ [x]) := by
  have hc := h.cell
  have hfz := h.free
  have hlt := blk_lt h.blk
  have hx := hta x
  have H := Lib.hid h
  have hne := Lib.hid h.ne
  obtain ⟨A, c, rfl, _, _⟩ := h.slice
  clear h
  go_enter Try.func58, Try.ntmps58
  go_wp2
  go_region_law (first | (refine app_step kI w.drew base (by rfl) (.tmp 7) (.tmp 10) 54 3 (.int .i64 0) 8 (by rfl) Try.underlying54 info3 (by rfl) (by decide) (by decide) (.slice A xs.length c) xs x [.int .i64 x] (by rfl) (fun k => k ≠ B) (by rfl) (by rfl) (by rfl) (by intro k hk he; have := blk_lt H.out.blk; simp at hk; omega) (by exact Kd.R_drew H.out.row) (by exact hbw) (by omega) ?_; intro v1 w1 hR1 hg1 hat1; obtain ⟨A1, k1, e1⟩ := Kd.R_slice hR1; rw [List.length_append, List.length_singleton] at e1; subst e1; have hb1 := blk_grown (show w.drew.heap[B]? = _ from H.out.blk) hg1 hne.out; have c1 := (blk_cell hb1 o).trans H.out.at_; have z1 := blk_frozen hb1 o; have HR1 := Lib.hid hR1; have HG1 := Lib.hid hg1; have HT1 := Lib.hid hat1; clear hR1 hg1 hat1 hb1))
  all_goals
    go_end0
    exact ⟨rfl, _, push_end H.out (wA := w.drew) (Fr.drewN (Fr.refl w _) 1) HR1.out HG1.out HT1.out⟩
theorem info3s : ∃ i, Try.prog.info? 3 = some i := by
  obtain ⟨i, h, _⟩ := Option.map_eq_some_iff.1 info3
  exact ⟨i, h⟩
theorem pop_end {w : World} {base B o : Nat} {T : TypeId} {cs : Array Value} {ad : Addr} {c : Nat} {ys : List Int} {x : Int} (h : HeapAt w base B o T cs (.slice (some ad) (ys.length + 1) c) (ys ++ [x])) (q : Nat) :
    HeapTo w ((w.drewN q).setCell ⟨B, o, none⟩ (.slice (some ad) ys.length c)).drew base B o T cs (.slice (some ad) (ys.length + 1) c) (.slice (some ad) ys.length c) ys := by
  have ho : o < cs.size := (Array.getElem?_eq_some_iff.1 h.at_).1
  have hR := Kd.R_take h.row (m := ys.length) (by simp)
  rw [List.take_left' rfl] at hR
  refine ⟨⟨blk_set (show (w.drewN q).heap[B]? = _ from h.blk) o _, by simp [ho], Kd.R_drew (Kd.R_far (Kd.R_drewN hR q) (fun k hk => hk) _)⟩, .inl rfl, ?_⟩
  exact Fr.drewN (Fr.set (p := ⟨B, o, none⟩) (Fr.drewN (Fr.refl w _) q) (.inl (.inl rfl)) _) 1
set_option maxHeartbeats 4000000 in
theorem pop_any (base B o : Nat) (T : TypeId) (cs : Array Value) (v : Value) (ys : List Int) (x : Int) (w : World) (h : HeapAt w base B o T cs v (ys ++ [x])) (hl : ys.length ≤ 1000000) :
    Calls Try.prog 57 #[.pointer (some ⟨B, o, none⟩)] w fun e w' => e = .returned (.iface 3 (.int .i64 x)) ∧ ∃ v', HeapTo w w' base B o T cs v v' ys := by
  have hc := h.cell
  have hfz := h.free
  have hlt := blk_lt h.blk
  have H := Lib.hid h
  obtain ⟨A, c, e, hnc, hrd⟩ := h.slice
  rw [List.length_append, List.length_singleton] at e hnc hrd
  subst e
  obtain ⟨ad, hA, hx⟩ := hrd.at_ (ys.length : Int) (by omega) (by omega)
  obtain rfl := hA
  rw [Int.toNat_natCast] at hx
  have hlast : rd (ys ++ [x]) (ys.length : Int) = x := by
    unfold rd
    rw [Int.toNat_natCast, List.getD_eq_getElem?_getD]
    simp
  rw [hlast] at hx
  obtain ⟨i3, hi3⟩ := info3s
  have hcut := cut_to (P := Try.prog) 54 3 .i64 Try.underlying54 hi3 (some ad) (ys.length + 1) c (ys.length : Int) (by omega) (by omega) hnc
  clear h hlast hrd
  go_enter Try.func57, Try.ntmps57
  go_wp2
  go_quiet (fail)
  go_wp2
  have hfz2 : (w.drewN nq).frozen? ⟨B, o, none⟩ = false := hfz
  have hc2 : (w.drewN nq).cell? ⟨B, o, none⟩ = some (.slice (some ad) (ys.length + 1) c) := hc
  go_region
  all_goals
    go_wp2
    go_ret
    exact ⟨rfl, _, pop_end H.out nq⟩
end Go.Proofs.Ytameoapnhmoleaa
set_option linter.unusedVariables false
set_option linter.unusedSimpArgs false
namespace Go.Proofs.Ytameoapnhmoleaa
open Go.RowKit Go.Proofs.YtameoapnhmoleaaW.PrintWords Go.Proofs.YtameoapnhmoleaaW.PrintLast Go.Proofs.YtameoapnhmoleaaW.PrintMore

theorem m_push (a : Addr) (w : World) : (method 190 58 (.pointer (some a)) "Push").run Try.prog w = .ok (58, .pointer (some a)) w := by kernel_rfl
theorem m_pop (a : Addr) (w : World) : (method 190 58 (.pointer (some a)) "Pop").run Try.prog w = .ok (57, .pointer (some a)) w := by kernel_rfl
theorem m_len0 (a : Addr) (w : World) : (method 190 58 (.pointer (some a)) "Len").run Try.prog w = (Sem.load Mode.plain a (fun v => Sem.pure ((54 : FuncId), v))).run Try.prog w := by kernel_rfl
theorem m_less0 (a : Addr) (w : World) : (method 190 58 (.pointer (some a)) "Less").run Try.prog w = (Sem.load Mode.plain a (fun v => Sem.pure ((55 : FuncId), v))).run Try.prog w := by kernel_rfl
theorem m_swap0 (a : Addr) (w : World) : (method 190 58 (.pointer (some a)) "Swap").run Try.prog w = (Sem.load Mode.plain a (fun v => Sem.pure ((56 : FuncId), v))).run Try.prog w := by kernel_rfl
theorem load0 {α : Type} (a : Addr) (v : Value) (w : World) (k : Value → Sem α) (h : w.cell? a = some v) : (Sem.load Mode.plain a k).run Try.prog w = (k v).run Try.prog w := by
  simp only [Sem.run, h]
theorem m_len (a : Addr) (v : Value) (w : World) (h : w.cell? a = some v) : (method 190 58 (.pointer (some a)) "Len").run Try.prog w = .ok (54, v) w := by rw [m_len0, load0 a v w _ h]; rfl
theorem m_less (a : Addr) (v : Value) (w : World) (h : w.cell? a = some v) : (method 190 58 (.pointer (some a)) "Less").run Try.prog w = .ok (55, v) w := by rw [m_less0, load0 a v w _ h]; rfl
theorem m_swap (a : Addr) (v : Value) (w : World) (h : w.cell? a = some v) : (method 190 58 (.pointer (some a)) "Swap").run Try.prog w = .ok (56, v) w := by rw [m_swap0, load0 a v w _ h]; rfl

section
variable {base B o g c : Nat} {T : TypeId} {cs : Array Value} {xs : List Int} {w : World}
theorem swap_heap {i j : Nat} (h : HeapAt w base B o T cs (.slice (some ⟨g, 0, none⟩) xs.length c) xs) (hi : i < xs.length) (hj : j < xs.length) :
    Calls Try.prog 56 #[.slice (some ⟨g, 0, none⟩) xs.length c, .int .i64 (i : Int), .int .i64 (j : Int)] w fun e w' => e = .returned (.tuple #[]) ∧ HeapTo w w' base B o T cs (.slice (some ⟨g, 0, none⟩) xs.length c) (.slice (some ⟨g, 0, none⟩) xs.length c) (swapL xs i j) := by
  refine (swap_any g xs.length c base _ xs i j w h.row hi hj).mono ?_
  rintro e w' ⟨rfl, hR, hF⟩
  have hg : (Value.slice (some ⟨g, 0, none⟩) xs.length c).ownBlock = some g := by simp [Value.ownBlock]
  have hne := h.ne
  rw [hg] at hne
  refine ⟨rfl, ?_, .inl rfl, hF.mono (fun k hk => .inr (by rw [hk, hg]))⟩
  rw [setIf_same cs o _ h.at_]
  exact ⟨hF.blk h.blk (fun e => hne (by rw [e])), h.at_, hR⟩
theorem swapL_length (xs : List Int) (i j : Nat) : (swapL xs i j).length = xs.length := by simp [swapL]
end
def upL : Nat → List Int → Nat → List Int
  | 0, xs, _ => xs
  | k + 1, xs, j => if j ≠ 0 ∧ rd xs j < rd xs ((j - 1) / 2 : Nat) then upL k (swapL xs ((j - 1) / 2) j) ((j - 1) / 2) else xs
theorem upL_length : ∀ (k : Nat) (xs : List Int) (j : Nat), (upL k xs j).length = xs.length
  | 0, _, _ => rfl
  | k + 1, xs, j => by
    rw [upL]
    split
    · rw [upL_length k, swapL_length]
    · rfl
theorem up_fuel : ∀ (k : Nat) (xs : List Int) (j k' : Nat), j < k → j < k' → upL k xs j = upL k' xs j
  | 0, _, _, _, h, _ => absurd h (Nat.not_lt_zero _)
  | k + 1, xs, j, 0, _, h => absurd h (Nat.not_lt_zero _)
  | k + 1, xs, j, k' + 1, h, h' => by
    rw [upL, upL]
    split
    · rename_i hc
      exact up_fuel k _ _ k' (by omega) (by omega)
    · rfl
theorem heap_reads {w : World} {base B o n c : Nat} {T : TypeId} {cs : Array Value} {A : Option Addr} {xs : List Int} (h : HeapAt w base B o T cs (.slice A n c) xs) (hn : xs.length = n) : ReadsInt w .i64 A n xs := by
  obtain ⟨A', c', e, hc, hr⟩ := h.slice
  injection e with e1 e2 e3
  subst e1
  rw [hn] at hr
  exact hr
theorem swap_heap' {base B o g c n : Nat} {T : TypeId} {cs : Array Value} {xs : List Int} {w : World} (hn : xs.length = n) {i j : Nat} (h : HeapAt w base B o T cs (.slice (some ⟨g, 0, none⟩) n c) xs) (hi : i < n) (hj : j < n) :
    Calls Try.prog 56 #[.slice (some ⟨g, 0, none⟩) n c, .int .i64 (i : Int), .int .i64 (j : Int)] w fun e w' => e = .returned (.tuple #[]) ∧ HeapTo w w' base B o T cs (.slice (some ⟨g, 0, none⟩) n c) (.slice (some ⟨g, 0, none⟩) n c) (swapL xs i j) := by
  subst hn
  exact swap_heap h hi hj
set_option maxHeartbeats 4000000 in
theorem up_any (base B o g c n : Nat) (T : TypeId) (cs : Array Value) (xs : List Int) (j : Nat) (w : World) (h : HeapAt w base B o T cs (.slice (some ⟨g, 0, none⟩) n c) xs) (hn : xs.length = n) (hj : j < n) (hl : n ≤ 1000001) :
    Calls Try.prog 33 #[.iface 58 (.pointer (some ⟨B, o, none⟩)), .int .i64 (j : Int)] w fun e w' => e = .returned (.tuple #[]) ∧ HeapTo w w' base B o T cs (.slice (some ⟨g, 0, none⟩) n c) (.slice (some ⟨g, 0, none⟩) n c) (upL (j + 1) xs j) := by
  have H := Lib.hid h
  have HN := Lib.hid hn
  clear h hn
  go_enter Try.func33, Try.ntmps33
  go_wp2_with fail
  go_loopw [1] (fun jv wr => ∃ (q : Nat) (ys : List Int), q < n ∧ jv = .int .i64 q ∧ Hid (ys.length = n) ∧ Hid (HeapTo w wr base B o T cs (.slice (some ⟨g, 0, none⟩) n c) (.slice (some ⟨g, 0, none⟩) n c) ys) ∧ Hid (upL (q + 1) ys q = upL (j + 1) xs j)) (fun jv _ => (intOf jv).toNat)
  case atStart => exact ⟨j, xs, hj, rfl, HN, Lib.hid (HeapTo.refl H.out), Lib.hid rfl⟩
  case round =>
    obtain ⟨q, ys, hq, rfl, HY, HT, HU⟩ := hrel
    have hc := HT.out.1.cell
    have hml := fun w h => m_less ⟨B, o, none⟩ (.slice (some ⟨g, 0, none⟩) n c) w h
    have hms := fun w h => m_swap ⟨B, o, none⟩ (.slice (some ⟨g, 0, none⟩) n c) w h
    by_cases h0 : q = 0
    · subst h0
      go_wp2_with fail
      go_end0
      have hu := HU.out
      rw [upL, if_neg (by simp)] at hu
      rw [← hu]
      exact ⟨rfl, HT.out⟩
    · obtain ⟨p, hp, hpq⟩ : ∃ p : Nat, ((q : Int) - 1) / 2 = (p : Int) ∧ p < q := ⟨(q - 1) / 2, by omega, by omega⟩
      have hp2 : (q - 1) / 2 = p := by omega
      have hq1 : (1 : Int) ≤ (q : Int) := by omega
      have hne : ((p : Int) == (q : Int)) = false := by simp; omega
      have HP := Lib.hid hp2
      clear hp2
      have hyl := HY.out
      by_cases hlt : rd ys q < rd ys p
      · have hd : decide (rd ys q < rd ys p) = true := decide_eq_true hlt
        have HL := Lib.hid hlt
        clear hlt hyl
        go_wp2_with (first | (go_at_call 55; refine (less_any (some ⟨g, 0, none⟩) n c ys q p _ (by exact heap_reads HT.out.1 HY.out) hq (by omega)).mono ?_; rintro e w1 ⟨rfl, nq, rfl⟩) | (go_at_call 56; refine (swap_heap' HY.out (by exact HT.out.1.drewN nq) (i := p) (j := q) (by omega) (by omega)).mono ?_; rintro e w2 ⟨rfl, hT2⟩; have HT2 := Lib.hid hT2; clear hT2))
        have HU2 : Hid (upL (p + 1) (swapL ys p q) p = upL (j + 1) xs j) := Lib.hid (by
          have hu := HU.out
          rw [upL, if_pos ⟨h0, by rw [HP.out]; exact HL.out⟩, HP.out] at hu
          rw [← hu]
          exact up_fuel _ _ _ _ (by omega) (by omega))
        go_roundw
        case rel => exact ⟨p, swapL ys p q, by omega, rfl, Lib.hid (by rw [swapL_length]; exact HY.out), Lib.hid (HeapTo.then_ (HeapTo.drewN HT.out nq) HT2.out), HU2⟩
        case measure => simp [intOf]; omega
      · have hd : decide (rd ys q < rd ys p) = false := decide_eq_false hlt
        have HL := Lib.hid hlt
        clear hlt hyl
        go_wp2_with (go_at_call 55; refine (less_any (some ⟨g, 0, none⟩) n c ys q p _ (by exact heap_reads HT.out.1 HY.out) hq (by omega)).mono ?_; rintro e w1 ⟨rfl, nq, rfl⟩)
        go_end0
        have hu := HU.out
        rw [upL, if_neg (fun h => by have h2 := HL.out; have h3 := h.2; rw [HP.out] at h3; omega)] at hu
        rw [← hu]
        exact ⟨rfl, HeapTo.drewN HT.out nq⟩
end Go.Proofs.Ytameoapnhmoleaa
set_option linter.unusedVariables false
set_option linter.unusedSimpArgs false
namespace Go.Proofs.Ytameoapnhmoleaa
open Go.RowKit Go.Proofs.YtameoapnhmoleaaW.PrintWords Go.Proofs.YtameoapnhmoleaaW.PrintLast Go.Proofs.YtameoapnhmoleaaW.PrintMore

def kid (xs : List Int) (i m : Nat) : Nat := if 2 * i + 2 < m ∧ rd xs (2 * i + 2 : Nat) < rd xs (2 * i + 1 : Nat) then 2 * i + 2 else 2 * i + 1
def downL (m : Nat) : Nat → List Int → Nat → List Int
  | 0, xs, _ => xs
  | k + 1, xs, i => if 2 * i + 1 < m ∧ rd xs (kid xs i m : Nat) < rd xs i then downL m k (swapL xs i (kid xs i m)) (kid xs i m) else xs
theorem kid_lt {xs : List Int} {i m : Nat} (h : 2 * i + 1 < m) : kid xs i m < m ∧ i < kid xs i m := by
  unfold kid
  split <;> omega
theorem downL_length (m : Nat) : ∀ (k : Nat) (xs : List Int) (i : Nat), (downL m k xs i).length = xs.length
  | 0, _, _ => rfl
  | k + 1, xs, i => by
    rw [downL]
    split
    · rw [downL_length m k, swapL_length]
    · rfl
theorem down_fuel (m : Nat) : ∀ (k : Nat) (xs : List Int) (i k' : Nat), m - i < k → m - i < k' → downL m k xs i = downL m k' xs i
  | 0, _, _, _, h, _ => absurd h (Nat.not_lt_zero _)
  | k + 1, xs, i, 0, _, h => absurd h (Nat.not_lt_zero _)
  | k + 1, xs, i, k' + 1, h, h' => by
    rw [downL, downL]
    split
    · rename_i hc
      have := @kid_lt xs i m hc.1
      exact down_fuel m k _ _ k' (by omega) (by omega)
    · rfl
theorem down_stop {m k : Nat} {xs out : List Int} {i : Nat} (h : downL m (k + 1) xs i = out) (hs : ¬ (2 * i + 1 < m ∧ rd xs (kid xs i m : Nat) < rd xs i)) : out = xs := by
  rw [downL, if_neg hs] at h
  exact h.symm
theorem down_next {m : Nat} {xs out : List Int} {i j : Nat} (h : downL m (m - i + 1) xs i = out) (hj : kid xs i m = j) (hs : 2 * i + 1 < m) (hlt : rd xs j < rd xs i) : downL m (m - j + 1) (swapL xs i j) j = out := by
  subst hj
  have := @kid_lt xs i m hs
  rw [downL, if_pos ⟨hs, hlt⟩] at h
  rw [← h]
  exact down_fuel m _ _ _ _ (by omega) (by omega)
def SomeBool (e : Ending) : Prop := ∃ b : Bool, e = .returned (.bool b)
set_option maxHeartbeats 8000000 in
theorem down_any (base B o g c n m : Nat) (T : TypeId) (cs : Array Value) (xs : List Int) (w : World) (h : HeapAt w base B o T cs (.slice (some ⟨g, 0, none⟩) n c) xs) (hn : xs.length = n) (hm : m < n) (hl : n ≤ 1000001) :
    Calls Try.prog 34 #[.iface 58 (.pointer (some ⟨B, o, none⟩)), .int .i64 0, .int .i64 (m : Int)] w fun e w' => SomeBool e ∧ HeapTo w w' base B o T cs (.slice (some ⟨g, 0, none⟩) n c) (.slice (some ⟨g, 0, none⟩) n c) (downL m (m + 1) xs 0) := by
  have H := Lib.hid h
  have HN := Lib.hid hn
  clear h hn
  go_enter Try.func34, Try.ntmps34
  go_wp2_with fail
  go_loopw [7, 8, 9, 10] (fun iv _ _ _ wr => ∃ (q : Nat) (ys : List Int), q < n ∧ iv = .int .i64 q ∧ Hid (ys.length = n) ∧ Hid (HeapTo w wr base B o T cs (.slice (some ⟨g, 0, none⟩) n c) (.slice (some ⟨g, 0, none⟩) n c) ys) ∧ Hid (downL m (m - q + 1) ys q = downL m (m + 1) xs 0)) (fun iv _ _ _ _ => n - (intOf iv).toNat)
  case atStart => exact ⟨0, xs, by omega, rfl, HN, Lib.hid (HeapTo.refl H.out), Lib.hid rfl⟩
  case round =>
    obtain ⟨q, ys, hq, rfl, HY, HT, HU⟩ := hrel
    have hc := HT.out.1.cell
    have hml := fun w h => m_less ⟨B, o, none⟩ (.slice (some ⟨g, 0, none⟩) n c) w h
    have hms := fun w h => m_swap ⟨B, o, none⟩ (.slice (some ⟨g, 0, none⟩) n c) w h
    have hj0 : ¬ (2 : Int) * (q : Int) + 1 < 0 := by omega
    by_cases h1 : 2 * q + 1 < m
    · obtain ⟨a, ha, haq⟩ : ∃ a : Nat, 2 * (q : Int) + 1 = (a : Int) ∧ a = 2 * q + 1 := ⟨2 * q + 1, by omega, rfl⟩
      obtain ⟨b, hb, hba⟩ : ∃ b : Nat, (a : Int) + 1 = (b : Int) ∧ b = 2 * q + 2 := ⟨2 * q + 2, by omega, rfl⟩
      have h1i : ¬ (m : Int) ≤ (a : Int) := by omega
      have hj0 : ¬ (a : Int) < 0 := by omega
      have ham : a < m := by omega
      have hqa : q < a := by omega
      have hqb : q < b := by omega
      have HA := Lib.hid haq
      have HBB := Lib.hid hba
      clear haq hba h1
      have hk : (b < m ∧ rd ys b < rd ys a ∧ Hid (kid ys q m = b)) ∨ (b < m ∧ ¬ rd ys b < rd ys a ∧ Hid (kid ys q m = a)) ∨ (¬ b < m ∧ Hid (kid ys q m = a)) := by
        unfold kid
        rw [← HBB.out, ← HA.out]
        by_cases hbm : b < m
        · by_cases hlt : rd ys b < rd ys a
          · exact .inl ⟨hbm, hlt, Lib.hid (if_pos ⟨hbm, hlt⟩)⟩
          · exact .inr (.inl ⟨hbm, hlt, Lib.hid (if_neg (fun h => hlt h.2))⟩)
        · exact .inr (.inr ⟨hbm, Lib.hid (if_neg (fun h => hbm h.1))⟩)
      have HM : Hid (2 * q + 1 < m) := Lib.hid (by rw [← HA.out]; exact ham)
      rcases hk with ⟨hbm, hlt, HK⟩ | ⟨hbm, hlt, HK⟩ | ⟨hbm, HK⟩
      · have hbm2 : (b : Int) < (m : Int) := by omega
        have hd : decide (rd ys b < rd ys a) = true := decide_eq_true hlt
        clear hlt
        by_cases hl2 : rd ys b < rd ys q
        · have hd2 : decide (rd ys b < rd ys q) = true := decide_eq_true hl2
          have HN2 := Lib.hid (down_next HU.out HK.out HM.out hl2)
          clear hl2
          go_wp2_with fail
          refine (less_any (some ⟨g, 0, none⟩) n c ys b a _ (by exact heap_reads HT.out.1 HY.out) (by omega) (by omega)).mono ?_
          rintro e w1 ⟨rfl, n1, rfl⟩
          go_wp2_with fail
          refine (less_any (some ⟨g, 0, none⟩) n c ys b q _ (by exact heap_reads (HT.out.1.drewN n1) HY.out) (by omega) (by omega)).mono ?_
          rintro e w2 ⟨rfl, n2, rfl⟩
          go_wp2_with fail
          refine (swap_heap' HY.out (by exact HT.out.1.drewN (n1 + n2)) (i := q) (j := b) (by omega) (by omega)).mono ?_
          rintro e w3 ⟨rfl, hT2⟩
          have HT2 := Lib.hid hT2
          clear hT2
          go_wp2
          go_roundw
          case rel => exact ⟨b, swapL ys q b, by omega, rfl, Lib.hid (by rw [swapL_length]; exact HY.out), Lib.hid (HeapTo.then_ (HeapTo.drewN HT.out (n1 + n2)) HT2.out), HN2⟩
          case measure => simp [intOf]; omega
        · have hd2 : decide (rd ys b < rd ys q) = false := decide_eq_false hl2
          have HS := Lib.hid (down_stop HU.out (fun h => hl2 (by have := h.2; rwa [HK.out] at this)))
          clear hl2
          go_wp2_with fail
          refine (less_any (some ⟨g, 0, none⟩) n c ys b a _ (by exact heap_reads HT.out.1 HY.out) (by omega) (by omega)).mono ?_
          rintro e w1 ⟨rfl, n1, rfl⟩
          go_wp2_with fail
          refine (less_any (some ⟨g, 0, none⟩) n c ys b q _ (by exact heap_reads (HT.out.1.drewN n1) HY.out) (by omega) (by omega)).mono ?_
          rintro e w2 ⟨rfl, n2, rfl⟩
          go_wp2_with fail
          go_ret
          rw [HS.out]
          exact ⟨⟨_, rfl⟩, HeapTo.drewN HT.out (n1 + n2)⟩
      · have hbm2 : (b : Int) < (m : Int) := by omega
        have hd : decide (rd ys b < rd ys a) = false := decide_eq_false hlt
        clear hlt
        by_cases hl2 : rd ys a < rd ys q
        · have hd2 : decide (rd ys a < rd ys q) = true := decide_eq_true hl2
          have HN2 := Lib.hid (down_next HU.out HK.out HM.out hl2)
          clear hl2
          go_wp2_with fail
          refine (less_any (some ⟨g, 0, none⟩) n c ys b a _ (by exact heap_reads HT.out.1 HY.out) (by omega) (by omega)).mono ?_
          rintro e w1 ⟨rfl, n1, rfl⟩
          go_wp2_with fail
          refine (less_any (some ⟨g, 0, none⟩) n c ys a q _ (by exact heap_reads (HT.out.1.drewN n1) HY.out) (by omega) (by omega)).mono ?_
          rintro e w2 ⟨rfl, n2, rfl⟩
          go_wp2_with fail
          refine (swap_heap' HY.out (by exact HT.out.1.drewN (n1 + n2)) (i := q) (j := a) (by omega) (by omega)).mono ?_
          rintro e w3 ⟨rfl, hT2⟩
          have HT2 := Lib.hid hT2
          clear hT2
          go_wp2
          go_roundw
          case rel => exact ⟨a, swapL ys q a, by omega, rfl, Lib.hid (by rw [swapL_length]; exact HY.out), Lib.hid (HeapTo.then_ (HeapTo.drewN HT.out (n1 + n2)) HT2.out), HN2⟩
          case measure => simp [intOf]; omega
        · have hd2 : decide (rd ys a < rd ys q) = false := decide_eq_false hl2
          have HS := Lib.hid (down_stop HU.out (fun h => hl2 (by have := h.2; rwa [HK.out] at this)))
          clear hl2
          go_wp2_with fail
          refine (less_any (some ⟨g, 0, none⟩) n c ys b a _ (by exact heap_reads HT.out.1 HY.out) (by omega) (by omega)).mono ?_
          rintro e w1 ⟨rfl, n1, rfl⟩
          go_wp2_with fail
          refine (less_any (some ⟨g, 0, none⟩) n c ys a q _ (by exact heap_reads (HT.out.1.drewN n1) HY.out) (by omega) (by omega)).mono ?_
          rintro e w2 ⟨rfl, n2, rfl⟩
          go_wp2_with fail
          go_ret
          rw [HS.out]
          exact ⟨⟨_, rfl⟩, HeapTo.drewN HT.out (n1 + n2)⟩
      · have hbm2 : ¬ (b : Int) < (m : Int) := by omega
        by_cases hl2 : rd ys a < rd ys q
        · have hd2 : decide (rd ys a < rd ys q) = true := decide_eq_true hl2
          have HN2 := Lib.hid (down_next HU.out HK.out HM.out hl2)
          clear hl2
          go_wp2_with fail
          refine (less_any (some ⟨g, 0, none⟩) n c ys a q _ (by exact heap_reads HT.out.1 HY.out) (by omega) (by omega)).mono ?_
          rintro e w2 ⟨rfl, n2, rfl⟩
          go_wp2_with fail
          refine (swap_heap' HY.out (by exact HT.out.1.drewN n2) (i := q) (j := a) (by omega) (by omega)).mono ?_
          rintro e w3 ⟨rfl, hT2⟩
          have HT2 := Lib.hid hT2
          clear hT2
          go_wp2
          go_roundw
          case rel => exact ⟨a, swapL ys q a, by omega, rfl, Lib.hid (by rw [swapL_length]; exact HY.out), Lib.hid (HeapTo.then_ (HeapTo.drewN HT.out n2) HT2.out), HN2⟩
          case measure => simp [intOf]; omega
        · have hd2 : decide (rd ys a < rd ys q) = false := decide_eq_false hl2
          have HS := Lib.hid (down_stop HU.out (fun h => hl2 (by have := h.2; rwa [HK.out] at this)))
          clear hl2
          go_wp2_with fail
          refine (less_any (some ⟨g, 0, none⟩) n c ys a q _ (by exact heap_reads HT.out.1 HY.out) (by omega) (by omega)).mono ?_
          rintro e w2 ⟨rfl, n2, rfl⟩
          go_wp2_with fail
          go_ret
          rw [HS.out]
          exact ⟨⟨_, rfl⟩, HeapTo.drewN HT.out n2⟩
    · have h1i : (m : Int) ≤ 2 * (q : Int) + 1 := by omega
      have HS := Lib.hid (down_stop HU.out (fun h => h1 h.1))
      clear h1
      go_wp2_with fail
      go_ret
      rw [HS.out]
      exact ⟨⟨_, rfl⟩, HT.out⟩
end Go.Proofs.Ytameoapnhmoleaa
set_option linter.unusedVariables false
set_option linter.unusedSimpArgs false
namespace Go.Proofs.Ytameoapnhmoleaa
open Go.RowKit Go.Proofs.YtameoapnhmoleaaW.PrintWords Go.Proofs.YtameoapnhmoleaaW.PrintLast Go.Proofs.YtameoapnhmoleaaW.PrintMore

def pushL (xs : List Int) (x : Int) : List Int := upL (xs.length + 1) (xs ++ [x]) xs.length
def popA (xs : List Int) : List Int := downL (xs.length - 1) xs.length (swapL xs 0 (xs.length - 1)) 0
def popX (xs : List Int) : Int := rd (popA xs) (xs.length - 1 : Nat)
def popL (xs : List Int) : List Int := (popA xs).take (xs.length - 1)
theorem popA_length (xs : List Int) : (popA xs).length = xs.length := by unfold popA; rw [downL_length, swapL_length]
theorem popA_split (xs : List Int) (h : 0 < xs.length) : popA xs = popL xs ++ [popX xs] := by
  have hl := popA_length xs
  unfold popL popX
  have e : xs.length - 1 < (popA xs).length := by omega
  conv => lhs; rw [← List.take_append_drop (xs.length - 1) (popA xs)]
  rw [List.drop_eq_getElem_cons e, List.drop_of_length_le (by omega)]
  simp [rd, List.getD_eq_getElem?_getD, List.getElem?_eq_getElem e]
set_option maxHeartbeats 4000000 in
theorem hpush_any (base B o : Nat) (T : TypeId) (cs : Array Value) (v : Value) (xs : List Int) (x : Int) (w : World) (h : HeapAt w base B o T cs v xs) (hbw : base ≤ w.heap.size) (hl : xs.length ≤ 1000000) :
    Calls Try.prog 22 #[.iface 58 (.pointer (some ⟨B, o, none⟩)), .iface 3 (.int .i64 x)] w fun e w' => e = .returned (.tuple #[]) ∧ ∃ v', HeapTo w w' base B o T cs v v' (pushL xs x) := by
  have H := Lib.hid h
  have hmp := m_push
  clear h
  go_enter Try.func22, Try.ntmps22
  go_wp2_with fail
  refine (push_any base B o T cs v xs x _ (by exact H.out) (by exact hbw) hl).mono ?_
  rintro e w1 ⟨rfl, v1, hT1⟩
  obtain ⟨g, c, hv, _⟩ := Kd.R_form hT1.1.row (by simp)
  rw [List.length_append, List.length_singleton] at hv
  subst hv
  have hc := hT1.1.cell
  have hml := fun w h => m_len ⟨B, o, none⟩ (.slice (some ⟨g, 0, none⟩) (xs.length + 1) c) w h
  have HT1 := Lib.hid hT1
  clear hT1
  go_wp2_with (go_at_call 54; refine (len_any _ _ _ _).mono ?_; rintro e w2 ⟨rfl, rfl⟩)
  have e : ((xs.length : Int) + 1 - 1) = (xs.length : Int) := by omega
  try rw [e]
  refine (up_any base B o g c (xs.length + 1) T (cs.setIfInBounds o (.slice (some ⟨g, 0, none⟩) (xs.length + 1) c)) (xs ++ [x]) xs.length _ (by exact HT1.out.1) (by simp) (by omega) (by omega)).mono ?_
  rintro e w2 ⟨rfl, hT2⟩
  have HT2 := Lib.hid hT2
  clear hT2
  go_wp2
  go_end0
  exact ⟨rfl, _, HeapTo.then_ HT1.out HT2.out⟩
theorem swap_first {base B o g c m : Nat} {T : TypeId} {cs : Array Value} {xs : List Int} {w : World} (hn : xs.length = m + 1) (h : HeapAt w base B o T cs (.slice (some ⟨g, 0, none⟩) (m + 1) c) xs) :
    Calls Try.prog 56 #[.slice (some ⟨g, 0, none⟩) (m + 1) c, .int .i64 0, .int .i64 (m : Int)] w fun e w' => e = .returned (.tuple #[]) ∧ HeapTo w w' base B o T cs (.slice (some ⟨g, 0, none⟩) (m + 1) c) (.slice (some ⟨g, 0, none⟩) (m + 1) c) (swapL xs 0 m) :=
  swap_heap' hn h (i := 0) (j := m) (by omega) (by omega)
set_option maxHeartbeats 8000000 in
theorem hpop_any (base B o : Nat) (T : TypeId) (cs : Array Value) (v : Value) (xs : List Int) (w : World) (h : HeapAt w base B o T cs v xs) (hp : 0 < xs.length) (hl : xs.length ≤ 1000000) :
    Calls Try.prog 24 #[.iface 58 (.pointer (some ⟨B, o, none⟩))] w fun e w' => e = .returned (.iface 3 (.int .i64 (popX xs))) ∧ ∃ v', HeapTo w w' base B o T cs v v' (popL xs) := by
  obtain ⟨g, c, hv, _⟩ := Kd.R_form h.row hp
  obtain ⟨m, hm⟩ : ∃ m, xs.length = m + 1 := ⟨xs.length - 1, by omega⟩
  rw [hm] at hv
  subst hv
  have hc := h.cell
  have H := Lib.hid h
  have HM := Lib.hid hm
  have hml := fun w h => m_len ⟨B, o, none⟩ (.slice (some ⟨g, 0, none⟩) (m + 1) c) w h
  have hms := fun w h => m_swap ⟨B, o, none⟩ (.slice (some ⟨g, 0, none⟩) (m + 1) c) w h
  have hmp := m_pop
  have hml2 : m + 1 ≤ 1000000 := by omega
  clear h hm hp hl
  have hA : popA xs = downL m (m + 1) (swapL xs 0 m) 0 := by unfold popA; rw [HM.out]; rfl
  have hS : popA xs = popL xs ++ [popX xs] := popA_split xs (by rw [HM.out]; omega)
  have hL : (popL xs).length = m := by
    have := congrArg List.length hS
    rw [popA_length, HM.out, List.length_append, List.length_singleton] at this
    omega
  have HAS := Lib.hid (hA.symm.trans hS)
  have HLL := Lib.hid hL
  clear hA hS hL
  go_enter Try.func24, Try.ntmps24
  go_wp2_with (go_at_call 54; refine (len_any _ _ _ _).mono ?_; rintro e w2 ⟨rfl, rfl⟩)
  refine (swap_first HM.out (by exact H.out)).mono ?_
  rintro e w2 ⟨rfl, hT2⟩
  have HT2 := Lib.hid hT2
  clear hT2
  go_wp2_with fail
  refine (down_any base B o g c (m + 1) m T _ (swapL xs 0 m) _ (by exact HT2.out.1) (by rw [swapL_length]; exact HM.out) (by omega) (by omega)).mono ?_
  rintro e w3 ⟨⟨b, rfl⟩, hT3⟩
  rw [HAS.out] at hT3
  have HT3 := Lib.hid (HeapTo.then_ HT2.out hT3)
  clear hT3 hc
  have hle := HLL.out
  have hle2 : (popL xs).length ≤ 1000000 := by omega
  clear hle
  go_wp2_with fail
  refine (pop_any base B o T _ _ (popL xs) (popX xs) _ (by exact HT3.out.1) hle2).mono ?_
  rintro e w4 ⟨rfl, v4, hT4⟩
  have HT4 := Lib.hid hT4
  clear hT4
  go_wp2
  go_ret
  exact ⟨rfl, _, HeapTo.then_ HT3.out HT4.out⟩
end Go.Proofs.Ytameoapnhmoleaa
set_option linter.unusedVariables false
set_option linter.unusedSimpArgs false
namespace Go.Proofs.Ytameoapnhmoleaa
open Go.RowKit Go.Proofs.YtameoapnhmoleaaW.PrintWords Go.Proofs.YtameoapnhmoleaaW.PrintLast Go.Proofs.YtameoapnhmoleaaW.PrintMore

theorem rd_nat (xs : List Int) (k : Nat) : rd xs k = xs.getD k 0 := by unfold rd; rw [Int.toNat_natCast]
theorem rd_swap (xs : List Int) (i j k : Nat) (hi : i < xs.length) (hj : j < xs.length) : rd (swapL xs i j) k = if k = j then rd xs i else if k = i then rd xs j else rd xs k := by
  unfold swapL
  simp only [rd_nat, List.getD_eq_getElem?_getD, List.getElem?_set, List.length_set]
  by_cases h1 : j = k
  · subst h1; simp [hj]
  · by_cases h2 : i = k
    · subst h2; simp [h1, Ne.symm h1, hi]
    · simp [h1, h2, Ne.symm h1, Ne.symm h2]
theorem swap_perm (xs : List Int) (i j : Nat) (hi : i < xs.length) (hj : j < xs.length) : (swapL xs i j).Perm xs := by
  unfold swapL
  have e1 : rd xs j = xs[j] := by rw [rd_nat, List.getD_eq_getElem?_getD, List.getElem?_eq_getElem hj]; rfl
  have e2 : rd xs i = xs[i] := by rw [rd_nat, List.getD_eq_getElem?_getD, List.getElem?_eq_getElem hi]; rfl
  rw [e1, e2]
  exact List.set_set_perm hi hj
def Hp (m : Nat) (xs : List Int) : Prop := ∀ i : Nat, 0 < i → i < m → rd xs ((i - 1) / 2 : Nat) ≤ rd xs i
def UpInv (xs : List Int) (j : Nat) : Prop :=
  (∀ i : Nat, 0 < i → i < xs.length → i ≠ j → rd xs ((i - 1) / 2 : Nat) ≤ rd xs i) ∧ (∀ i : Nat, 0 < i → i < xs.length → (i - 1) / 2 = j → 0 < j → rd xs ((j - 1) / 2 : Nat) ≤ rd xs i)
theorem up_heap : ∀ (k : Nat) (xs : List Int) (j : Nat), j < k → j < xs.length → UpInv xs j → Hp xs.length (upL k xs j) ∧ (upL k xs j).Perm xs
  | 0, _, _, h, _, _ => absurd h (Nat.not_lt_zero _)
  | k + 1, xs, j, hk, hj, ⟨h1, h2⟩ => by
    rw [upL]
    by_cases hc : j ≠ 0 ∧ rd xs j < rd xs ((j - 1) / 2 : Nat)
    · rw [if_pos hc]
      obtain ⟨h0, hlt⟩ := hc
      have hp : (j - 1) / 2 < j := by omega
      have hpl : (j - 1) / 2 < xs.length := by omega
      have hP := swap_perm xs _ j hpl hj
      have hr := fun q => rd_swap xs ((j - 1) / 2) j q hpl hj
      obtain ⟨a1, a2⟩ := up_heap k (swapL xs ((j - 1) / 2) j) ((j - 1) / 2) (by omega) (by rw [swapL_length]; exact hpl) ⟨by
        intro i hi0 hil hne
        rw [swapL_length] at hil
        rw [hr, hr]
        by_cases hij : i = j
        · subst hij
          rw [if_pos rfl, if_neg (by omega), if_pos rfl]
          omega
        · rw [if_neg hij, if_neg hne]
          by_cases hq : (i - 1) / 2 = j
          · rw [if_pos hq]
            exact h2 i hi0 hil hq (by omega)
          · rw [if_neg hq]
            by_cases hq2 : (i - 1) / 2 = (j - 1) / 2
            · rw [if_pos hq2]
              have := h1 i hi0 hil hij
              rw [hq2] at this
              omega
            · rw [if_neg hq2]
              exact h1 i hi0 hil hij, by
        intro i hi0 hil hpi h00
        rw [swapL_length] at hil
        rw [hr, hr]
        have hpp := h1 ((j - 1) / 2) h00 hpl (by omega)
        rw [if_neg (by omega), if_neg (by omega)]
        by_cases hij : i = j
        · rw [if_pos hij]
          exact hpp
        · rw [if_neg hij, if_neg (by omega)]
          have := h1 i hi0 hil hij
          rw [hpi] at this
          omega⟩
      rw [swapL_length] at a1
      exact ⟨a1, a2.trans hP⟩
    · rw [if_neg hc]
      refine ⟨fun i hi0 hil => ?_, List.Perm.refl _⟩
      by_cases hij : i = j
      · subst hij
        have : ¬ rd xs i < rd xs ((i - 1) / 2 : Nat) := fun h => hc ⟨by omega, h⟩
        omega
      · exact h1 i hi0 hil hij
theorem push_heap {xs : List Int} {x : Int} (h : Hp xs.length xs) : Hp (pushL xs x).length (pushL xs x) ∧ (pushL xs x).Perm (xs ++ [x]) := by
  have hlen : (xs ++ [x]).length = xs.length + 1 := by simp
  have hold : ∀ k : Nat, k < xs.length → rd (xs ++ [x]) k = rd xs k := fun k hk => by
    rw [rd_nat, rd_nat, List.getD_eq_getElem?_getD, List.getD_eq_getElem?_getD, List.getElem?_append_left hk]
  obtain ⟨a1, a2⟩ := up_heap (xs.length + 1) (xs ++ [x]) xs.length (by omega) (by omega) ⟨fun i hi0 hil hne => by
    rw [hlen] at hil
    rw [hold _ (by omega), hold _ (by omega)]
    exact h i hi0 (by omega), fun i hi0 hil hpi h0 => by omega⟩
  refine ⟨?_, a2⟩
  have : (pushL xs x).length = (xs ++ [x]).length := a2.length_eq
  rw [this]
  exact a1
def DownInv (m : Nat) (xs : List Int) (i : Nat) : Prop :=
  (∀ k : Nat, 0 < k → k < m → (k - 1) / 2 ≠ i → rd xs ((k - 1) / 2 : Nat) ≤ rd xs k) ∧ (∀ k : Nat, 0 < k → k < m → (k - 1) / 2 = i → 0 < i → rd xs ((i - 1) / 2 : Nat) ≤ rd xs k)
theorem kid_least {xs : List Int} {i m k : Nat} (hk0 : 0 < k) (hk : k < m) (hp : (k - 1) / 2 = i) : rd xs (kid xs i m : Nat) ≤ rd xs k := by
  have : k = 2 * i + 1 ∨ k = 2 * i + 2 := by omega
  unfold kid
  split
  · rename_i h
    rcases this with rfl | rfl <;> omega
  · rename_i h
    rcases this with rfl | rfl
    · exact Int.le_refl _
    · have : ¬ rd xs (2 * i + 2 : Nat) < rd xs (2 * i + 1 : Nat) := fun h2 => h ⟨hk, h2⟩
      omega
theorem kid_par {xs : List Int} {i m : Nat} : (kid xs i m - 1) / 2 = i ∧ 0 < kid xs i m := by
  unfold kid
  split <;> omega
theorem down_heap (m : Nat) : ∀ (k : Nat) (xs : List Int) (i : Nat), m - i < k → i < xs.length → m ≤ xs.length → DownInv m xs i →
    Hp m (downL m k xs i) ∧ (downL m k xs i).Perm xs ∧ ∀ q : Nat, m ≤ q → rd (downL m k xs i) q = rd xs q ∨ (q = i)
  | 0, _, _, h, _, _, _ => absurd h (Nat.not_lt_zero _)
  | k + 1, xs, i, hk, hi, hm, ⟨h1, h2⟩ => by
    rw [downL]
    obtain ⟨hpar, hk0⟩ := @kid_par xs i m
    by_cases hc : 2 * i + 1 < m ∧ rd xs (kid xs i m : Nat) < rd xs i
    · rw [if_pos hc]
      obtain ⟨hlm, hlt⟩ := hc
      obtain ⟨hj, hij⟩ := @kid_lt xs i m hlm
      have hleast := fun q (h0 : 0 < q) (hq : q < m) (hp : (q - 1) / 2 = i) => @kid_least xs i m q h0 hq hp
      generalize kid xs i m = j at *
      have hjl : j < xs.length := by omega
      have hP := swap_perm xs i j hi hjl
      have hr := fun q => rd_swap xs i j q hi hjl
      obtain ⟨a1, a2, a3⟩ := down_heap m k (swapL xs i j) j (by omega) (by rw [swapL_length]; exact hjl) (by rw [swapL_length]; exact hm) ⟨by
        intro q hq0 hqm hne
        rw [hr, hr]
        rw [if_neg hne]
        by_cases hqj : q = j
        · subst hqj
          rw [if_pos rfl, hpar, if_pos rfl]
          omega
        · rw [if_neg hqj]
          by_cases hqi : q = i
          · subst hqi
            rw [if_pos rfl, if_neg (by omega)]
            exact h2 j hk0 hj hpar hq0
          · rw [if_neg hqi]
            by_cases hp2 : (q - 1) / 2 = i
            · rw [if_pos hp2]
              exact hleast q hq0 hqm hp2
            · rw [if_neg hp2]
              exact h1 q hq0 hqm hp2, by
        intro q hq0 hqm hp hj0
        rw [hr, hr, hpar, if_neg (by omega), if_pos rfl, if_neg (by omega), if_neg (by omega)]
        have := h1 q hq0 hqm (by omega)
        rw [hp] at this
        exact this⟩
      refine ⟨a1, a2.trans hP, fun q hq => ?_⟩
      rcases a3 q hq with e | e
      · rw [e, hr, if_neg (by omega)]
        by_cases hqi : q = i
        · exact .inr hqi
        · rw [if_neg hqi]
          exact .inl rfl
      · omega
    · rw [if_neg hc]
      refine ⟨fun q hq0 hqm => ?_, List.Perm.refl _, fun q _ => .inl rfl⟩
      by_cases hp : (q - 1) / 2 = i
      · have : 2 * i + 1 < m := by omega
        have hn : ¬ rd xs (kid xs i m : Nat) < rd xs i := fun h => hc ⟨this, h⟩
        have := @kid_least xs i m q hq0 hqm hp
        rw [hp]
        omega
      · exact h1 q hq0 hqm hp
theorem heap_least {m : Nat} {xs : List Int} (h : Hp m xs) : ∀ (k : Nat), k < m → rd xs (0 : Nat) ≤ rd xs k := by
  intro k
  induction k using Nat.strongRecOn with
  | ind k ih =>
    intro hk
    by_cases h0 : k = 0
    · subst h0; exact Int.le_refl _
    · have := h k (by omega) hk
      have := ih ((k - 1) / 2) (by omega) (by omega)
      omega
/-- What Pop answers is the least, and takes it away. -/
theorem pop_heap {xs : List Int} (h : Hp xs.length xs) (hp : 0 < xs.length) : (popL xs ++ [popX xs]).Perm xs ∧ Hp (popL xs).length (popL xs) ∧ ∀ y ∈ xs, popX xs ≤ y := by
  obtain ⟨m, hm⟩ : ∃ m, xs.length = m + 1 := ⟨xs.length - 1, by omega⟩
  have hA : popA xs = downL m (m + 1) (swapL xs 0 m) 0 := by unfold popA; rw [hm]; rfl
  have hr := fun q => rd_swap xs 0 m q (by omega) (by omega)
  obtain ⟨a1, a2, a3⟩ := down_heap m (m + 1) (swapL xs 0 m) 0 (by omega) (by rw [swapL_length]; omega) (by rw [swapL_length]; omega) ⟨fun k hk0 hkm hne => by
    rw [hr, hr, if_neg (by omega), if_neg hne, if_neg (by omega), if_neg (by omega)]
    exact h k hk0 (by omega), fun k _ _ _ h0 => absurd h0 (Nat.lt_irrefl 0)⟩
  rw [← hA] at a1 a2 a3
  have hS := popA_split xs hp
  have hLl : (popL xs).length = m := by
    have := congrArg List.length hS
    rw [popA_length, List.length_append, List.length_singleton] at this
    omega
  have hX : popX xs = rd xs (0 : Nat) := by
    unfold popX
    rw [hm, Nat.add_sub_cancel]
    by_cases h0 : m = 0
    · subst h0
      rw [hA, downL, if_neg (by omega), hr, if_pos rfl]
    · rcases a3 m (Nat.le_refl _) with e | e
      · rw [e, hr, if_pos rfl]
      · exact absurd e h0
  refine ⟨by rw [← hS]; exact a2.trans (swap_perm xs 0 m (by omega) (by omega)), ?_, ?_⟩
  · rw [hLl]
    intro i hi0 him
    have e : ∀ q : Nat, q < m → rd (popL xs) q = rd (popA xs) q := fun q hq => by
      rw [hS, rd_nat, rd_nat, List.getD_eq_getElem?_getD, List.getD_eq_getElem?_getD, List.getElem?_append_left (by omega)]
    rw [e _ (by omega), e _ him]
    exact a1 i hi0 him
  · intro y hy
    obtain ⟨k, hk⟩ := List.getElem?_of_mem hy
    have hkl := (List.getElem?_eq_some_iff.1 hk).1
    rw [hX]
    have := heap_least h k hkl
    have e : rd xs k = y := by rw [rd_nat, List.getD_eq_getElem?_getD, hk]; rfl
    omega
end Go.Proofs.Ytameoapnhmoleaa
set_option linter.unusedVariables false
set_option linter.unusedSimpArgs false
namespace Go.Proofs.Ytameoapnhmoleaa
open Go.RowKit Go.Proofs.YtameoapnhmoleaaW.PrintWords Go.Proofs.YtameoapnhmoleaaW.PrintLast Go.Proofs.YtameoapnhmoleaaW.PrintMore
open PP

def keyV (p : S24) : Value := .agg #[.int .i64 p.f0, .int .i64 p.f1]
def eqL (a b : S24) : Bool := a.f0 == b.f0 && a.f1 == b.f1
theorem eqL_iff (a b : S24) : eqL a b = true ↔ a = b := by
  cases a; cases b
  simp [eqL]
theorem eqL_self (a : S24) : eqL a a = true := (eqL_iff a a).2 rfl
theorem eqL_symm (a b : S24) : eqL a b = eqL b a := by
  rw [Bool.eq_iff_iff, eqL_iff, eqL_iff]
  exact ⟨Eq.symm, Eq.symm⟩
def mkE (x : S24 × Int × Nat) : MapEntry := { key := keyV x.1, val := .int .i64 x.2.1, born := x.2.2 }
theorem check_run (b : Bool) (p : S24) (w : World) : (Instr.checkKey b 10000 24 (keyV p)).run Try.prog w = .ok () w := by kernel_rfl
theorem equal_run (p q : S24) (w : World) : (Op.equal 24 (keyV p) (keyV q)).run Try.prog w = .ok (eqL p q) w := eqA24 9998 w _ _ _ _
def findE (p : S24) : List (S24 × Int × Nat) → Nat → Option (Nat × Value)
  | [], _ => none
  | x :: r, i => if eqL p x.1 then some (i, .int .i64 x.2.1) else findE p r (i + 1)
theorem asking_run (p : S24) (w : World) : ∀ (E : List (S24 × Int × Nat)) (i : Nat), (Instr.findAsking 24 (keyV p) (E.map mkE) i).run Try.prog w = .ok (findE p E i) w
  | [], i => rfl
  | x :: r, i => by
    rw [List.map_cons, Instr.findAsking, findE]
    simp only [Sem.run_bind, show (mkE x).key = keyV x.1 from rfl, equal_run, Result.andThen_ok]
    cases eqL p x.1
    · simp only [Bool.false_eq_true, if_false]
      exact asking_run p w r (i + 1)
    · rfl
theorem find_run (p : S24) (w : World) (E : List (S24 × Int × Nat)) : (Instr.findKey 24 (keyV p) (E.map mkE)).run Try.prog w = .ok (findE p E 0) w := by
  unfold Instr.findKey
  simp only [Sem.run_bind, run_underlying Try.underlying24, Result.andThen_ok]
  cases E with
  | nil => rfl
  | cons x r =>
    have h : ∀ fs, Instr.findNow (.struct fs) (keyV p) ((x :: r).map mkE) 0 = none := fun _ => rfl
    rw [h]
    exact asking_run p w _ 0
def lookE : List (S24 × Int × Nat) → S24 → Int
  | [], _ => 0
  | x :: r, p => if eqL p x.1 = true then x.2.1 else lookE r p
theorem lookE_new {p q : S24} {b : Nat} : ∀ E : List (S24 × Int × Nat), lookE (E ++ [(p, 0, b)]) q = lookE E q
  | [] => by simp [lookE]
  | x :: r => by
    rw [List.cons_append, lookE, lookE, lookE_new r]
theorem findE_none {p : S24} : ∀ {E : List (S24 × Int × Nat)} {i : Nat}, findE p E i = none → (∀ x ∈ E, eqL p x.1 = false) ∧ lookE E p = 0
  | [], _, _ => ⟨by simp, rfl⟩
  | x :: r, i, h => by
    rw [findE] at h
    by_cases hc : eqL p x.1 = true
    · rw [if_pos hc] at h; cases h
    · rw [if_neg hc] at h
      obtain ⟨h1, h2⟩ := findE_none h
      have hc2 : eqL p x.1 = false := by simpa using hc
      refine ⟨fun y hy => ?_, ?_⟩
      · rcases List.mem_cons.1 hy with rfl | hy
        · exact hc2
        · exact h1 y hy
      · rw [lookE, if_neg hc]
        exact h2
theorem findE_some {p : S24} : ∀ {E : List (S24 × Int × Nat)} {i j : Nat} {v : Value}, findE p E i = some (j, v) → ∃ k x, j = i + k ∧ E[k]? = some x ∧ x.1 = p ∧ v = .int .i64 x.2.1 ∧ lookE E p = x.2.1
  | [], _, _, _, h => by cases h
  | x :: r, i, j, v, h => by
    rw [findE] at h
    by_cases hc : eqL p x.1 = true
    · rw [if_pos hc] at h
      injection h with h
      injection h with h1 h2
      exact ⟨0, x, by omega, rfl, ((eqL_iff _ _).1 hc).symm, h2.symm, by rw [lookE, if_pos hc]⟩
    · rw [if_neg hc] at h
      obtain ⟨k, y, h1, h2, h3, h4, h5⟩ := findE_some h
      have hc2 : eqL p x.1 = false := by simpa using hc
      refine ⟨k + 1, y, by omega, by simpa using h2, h3, h4, ?_⟩
      rw [lookE, if_neg hc]
      exact h5
/-- Block r of w is a map that holds E. -/
structure MapIs (w : World) (r : Nat) (E : List (S24 × Int × Nat)) (clock : Nat) : Prop where
  blk : w.heap[r]? = some (.map (E.map mkE).toArray clock)
  keys : (E.map (·.1)).Pairwise (· ≠ ·)
  born : ∀ x ∈ E, x.2.2 < clock
  born1 : (E.map (·.2.2)).Pairwise (· ≠ ·)
/-- .. that reads as m. -/
def MapAt (w : World) (r : Nat) (m : S24 → Int) : Prop := ∃ E clock, MapIs w r E clock ∧ ∀ p, lookE E p = m p
/-- .. and the entry of key p bears the stamp b. -/
def MapStamp (w : World) (r : Nat) (m : S24 → Int) (p : S24) (b : Nat) : Prop := ∃ E clock, MapIs w r E clock ∧ (∀ q, lookE E q = m q) ∧ ∃ v, (p, v, b) ∈ E
theorem MapStamp.at_ {w : World} {r : Nat} {m : S24 → Int} {p : S24} {b : Nat} (h : MapStamp w r m p b) : MapAt w r m := by
  obtain ⟨E, c, h1, h2, _⟩ := h
  exact ⟨E, c, h1, h2⟩
theorem MapIs.kept {w w1 : World} {r : Nat} {E : List (S24 × Int × Nat)} {c : Nat} (h : MapIs w r E c) (hb : w1.heap[r]? = w.heap[r]?) : MapIs w1 r E c := ⟨hb.trans h.blk, h.keys, h.born, h.born1⟩
theorem MapAt.kept {w w1 : World} {r : Nat} {m : S24 → Int} (h : MapAt w r m) (hb : w1.heap[r]? = w.heap[r]?) : MapAt w1 r m := by
  obtain ⟨E, c, h1, h2⟩ := h
  exact ⟨E, c, h1.kept hb, h2⟩
theorem MapAt.lt {w : World} {r : Nat} {m : S24 → Int} (h : MapAt w r m) : r < w.heap.size := by
  obtain ⟨E, c, h1, _⟩ := h
  exact (Array.getElem?_eq_some_iff.1 h1.blk).1
theorem MapAt.fr {w w1 : World} {r : Nat} {m : S24 → Int} {S : Nat → Prop} (h : MapAt w r m) (hf : Fr w w1 S) (hS : ¬ S r) : MapAt w1 r m := h.kept (hf.2.2.2.2 r h.lt hS)
theorem map_made (w : World) : MapAt (w.alloc (.map #[] 0)) w.heap.size (fun _ => 0) :=
  ⟨[], 0, ⟨heap_alloc_new w _, List.Pairwise.nil, by simp, List.Pairwise.nil⟩, fun _ => rfl⟩
theorem zero3 (w : World) : (zeroValue 3).run Try.prog w = .ok (.int .i64 0) w := by kernel_rfl
theorem toListE (E : List (S24 × Int × Nat)) : (E.map mkE).toArray.toList = E.map mkE := rfl
theorem lookup_run {w : World} {r : Nat} {m : S24 → Int} (h : MapAt w r m) (p : S24) : (Instr.lookup 53 (.map (some r)) (keyV p) false).run Try.prog w = .ok (.int .i64 (m p)) w := by
  obtain ⟨E, c, hI, hm⟩ := h
  rw [← hm p]
  cases hf : findE p E 0 with
  | none => simp [Instr.lookup, run_underlying Try.underlying53, MapKept.run_getObj_map hI.blk, check_run, find_run, hf, zero3, Result.andThen, (findE_none hf).2]
  | some y =>
    obtain ⟨j, v⟩ := y
    obtain ⟨k, x, _, _, _, hv, hl⟩ := findE_some hf
    simp [Instr.lookup, run_underlying Try.underlying53, MapKept.run_getObj_map hI.blk, check_run, find_run, hf, zero3, Result.andThen, hl, hv]
theorem same_key (p : S24) (n : Nat) : Instr.sameBits (n + 1) (keyV p) (keyV p) = true := by
  simp [keyV, Instr.sameBits]
theorem stays_run (p : S24) (w : World) : (Instr.keyThatStays (keyV p) (keyV p)).run Try.prog w = .ok (keyV p) w := by
  unfold Instr.keyThatStays
  rw [if_pos (same_key p 9999)]
  rfl
def setObjW (w : World) (r : Nat) (o : Obj) : World := { w with heap := w.heap.setIfInBounds r o }
theorem setObjW_same {w : World} {r : Nat} {o : Obj} (h : r < w.heap.size) : (setObjW w r o).heap[r]? = some o := by
  simp [setObjW, h]
theorem setObjW_other {w : World} {r k : Nat} {o : Obj} (h : k ≠ r) : (setObjW w r o).heap[k]? = w.heap[k]? := by
  simp [setObjW, Array.getElem?_setIfInBounds, Ne.symm h]
theorem setObjW_grown (w : World) (r : Nat) (o : Obj) : w.grownBy (setObjW w r o) (some r) := ⟨rfl, rfl, rfl, by simp [setObjW], fun k _ hk => setObjW_other (fun e => hk (by rw [e]))⟩
theorem modify_key (E : List (S24 × Int × Nat)) (k : Nat) (x : S24 × Int × Nat) (hk : E[k]? = some x) : (E.map mkE).toArray.modify k (fun e => { e with key := keyV x.1 }) = (E.map mkE).toArray := by
  apply Array.ext
  · simp
  · intro i h1 h2
    rw [Array.getElem_modify]
    split
    · rename_i hik
      subst hik
      have : E[k]'(by simpa using h2) = x := by
        have := List.getElem?_eq_some_iff.1 hk
        exact this.2
      simp [this, mkE]
    · rfl
/-- 'm[k] = ..', first half: the entry is there. -/
theorem entry_run {w : World} {r : Nat} {m : S24 → Int} (h : MapAt w r m) (p : S24) : ∃ (b : Nat) (w' : World), (Instr.mapEntry 53 (.map (some r)) (keyV p)).run Try.prog w = .ok (.tuple #[.int .i64 (m p), .int .i64 b]) w' ∧ MapStamp w' r m p b ∧ w.grownBy w' (some r) := by
  obtain ⟨E, c, hI, hm⟩ := h
  have hlt : r < w.heap.size := (Array.getElem?_eq_some_iff.1 hI.blk).1
  cases hf : findE p E 0 with
  | none =>
    obtain ⟨hn, h0⟩ := findE_none hf
    refine ⟨c, setObjW w r (.map ((E ++ [(p, 0, c)]).map mkE).toArray (c + 1)), ?_, ⟨E ++ [(p, 0, c)], c + 1, ⟨setObjW_same hlt, ?_, ?_, ?_⟩, ?_, 0, by simp⟩, setObjW_grown w r _⟩
    · have hpush : ((E.map mkE).toArray.push { key := keyV p, val := .int .i64 0, born := c }) = ((E ++ [(p, 0, c)]).map mkE).toArray := by
        apply Array.ext'
        simp [mkE]
      rw [← hm p, h0]
      simp only [Instr.mapEntry, Sem.run_bind, run_underlying Try.underlying53, Result.andThen_ok, MapKept.run_getObj_map hI.blk, check_run, toListE, find_run, hf, zero3, MapKept.run_setObj_map _ hI.blk, Sem.run_pure, hpush]
      rfl
    · rw [List.map_append, List.pairwise_append]
      refine ⟨hI.keys, List.pairwise_singleton _ _, ?_⟩
      intro a ha b hb
      obtain ⟨x, hx, rfl⟩ := List.mem_map.1 ha
      simp at hb
      subst hb
      intro he
      have := hn x hx
      rw [he, eqL_self] at this
      cases this
    · intro x hx
      rcases List.mem_append.1 hx with hx | hx
      · have := hI.born x hx; omega
      · simp at hx; subst hx; exact Nat.lt_succ_self c
    · rw [List.map_append, List.pairwise_append]
      refine ⟨hI.born1, List.pairwise_singleton _ _, ?_⟩
      intro a ha b hb
      obtain ⟨x, hx, rfl⟩ := List.mem_map.1 ha
      simp at hb
      subst hb
      have := hI.born x hx
      omega
    · intro q
      rw [← hm q, lookE_new]
  | some y =>
    obtain ⟨j, v⟩ := y
    obtain ⟨k, x, hj, hk, hx, hv, hl⟩ := findE_some hf
    rw [Nat.zero_add] at hj
    subst hj
    subst hv
    refine ⟨x.2.2, setObjW w r (.map (E.map mkE).toArray c), ?_, ⟨E, c, ⟨setObjW_same hlt, hI.keys, hI.born, hI.born1⟩, hm, x.2.1, ?_⟩, setObjW_grown w r _⟩
    · have hkl : (E.map mkE).toArray[j]? = some (mkE x) := by simp [hk]
      have hky : (mkE x).key = keyV p := by rw [← hx]; rfl
      rw [← hm p, hl]
      simp only [Instr.mapEntry, Sem.run_bind, run_underlying Try.underlying53, Result.andThen_ok, MapKept.run_getObj_map hI.blk, check_run, toListE, find_run, hf, hkl, Option.map_some, Option.getD_some, hky, stays_run, Sem.run_pure]
      have hmod := modify_key E j x hk
      rw [hx] at hmod
      rw [MapKept.run_setObj_map _ hI.blk, hmod]
      rfl
    · rw [← hx]
      exact List.mem_of_getElem? hk
def upd (m : S24 → Int) (p : S24) (v : Int) : S24 → Int := fun q => if eqL q p = true then v else m q
theorem find_born : ∀ (E : List (S24 × Int × Nat)) (b : Nat), (∃ x ∈ E, x.2.2 = b) → ∃ k, (E.map mkE).toArray.findIdx? (fun e => (e.born : Int) == ((b : Nat) : Int)) = some k ∧ ∃ x, E[k]? = some x ∧ x.2.2 = b := by
  intro E b ⟨x, hx, hb⟩
  have h1 : ((E.map mkE).toArray.findIdx? (fun e => (e.born : Int) == ((b : Nat) : Int))).isSome = true := by
    rw [Array.findIdx?_isSome]
    simp only [List.any_toArray, List.any_map, List.any_eq_true]
    exact ⟨x, hx, by simp [mkE, hb]⟩
  obtain ⟨k, hk⟩ := Option.isSome_iff_exists.1 h1
  refine ⟨k, hk, ?_⟩
  rw [Array.findIdx?_eq_some_iff_getElem] at hk
  obtain ⟨hkl, hp, _⟩ := hk
  have hkl' : k < E.length := by simpa using hkl
  refine ⟨E[k], List.getElem?_eq_getElem hkl', ?_⟩
  simp [mkE] at hp
  omega
theorem lookE_set {x : S24 × Int × Nat} {v : Int} {q : S24} : ∀ (E : List (S24 × Int × Nat)) (k : Nat), (E.map (·.1)).Pairwise (· ≠ ·) → E[k]? = some x → lookE (E.set k (x.1, v, x.2.2)) q = if eqL q x.1 = true then v else lookE E q
  | [], k, _, h => by simp at h
  | y :: r, 0, hp, h => by
    obtain rfl : y = x := by simpa using h
    rw [List.set_cons_zero, lookE, lookE]
    split <;> rfl
  | y :: r, k + 1, hp, h => by
    have hk : r[k]? = some x := by simpa using h
    rw [List.map_cons, List.pairwise_cons] at hp
    rw [List.set_cons_succ, lookE, lookE, lookE_set r k hp.2 hk]
    by_cases h1 : eqL q y.1 = true
    · rw [if_pos h1, if_pos h1]
      have hne : y.1 ≠ x.1 := hp.1 _ (List.mem_map.2 ⟨x, List.mem_of_getElem? hk, rfl⟩)
      rw [if_neg (fun h2 => hne (((eqL_iff _ _).1 h1).symm.trans ((eqL_iff _ _).1 h2)))]
    · rw [if_neg h1, if_neg h1]
theorem set_map {β : Type} (f : (S24 × Int × Nat) → β) {x y : S24 × Int × Nat} (hf : f y = f x) : ∀ (E : List (S24 × Int × Nat)) (k : Nat), E[k]? = some x → (E.set k y).map f = E.map f
  | [], k, h => by simp at h
  | z :: r, 0, h => by
    obtain rfl : z = x := by simpa using h
    simp [hf]
  | z :: r, k + 1, h => by
    have hk : r[k]? = some x := by simpa using h
    rw [List.set_cons_succ, List.map_cons, List.map_cons, set_map f hf r k hk]
theorem set_is {w : World} {r : Nat} {E : List (S24 × Int × Nat)} {c k : Nat} {x : S24 × Int × Nat} (v : Int) (hI : MapIs w r E c) (hk : E[k]? = some x) : MapIs (setObjW w r (.map ((E.set k (x.1, v, x.2.2)).map mkE).toArray c)) r (E.set k (x.1, v, x.2.2)) c := by
  have hlt : r < w.heap.size := (Array.getElem?_eq_some_iff.1 hI.blk).1
  refine ⟨setObjW_same hlt, by rw [set_map (y := (x.1, v, x.2.2)) (x := x) (·.1) rfl E k hk]; exact hI.keys, fun y hy => ?_, by rw [set_map (y := (x.1, v, x.2.2)) (x := x) (·.2.2) rfl E k hk]; exact hI.born1⟩
  rcases List.mem_or_eq_of_mem_set hy with h | h
  · exact hI.born y h
  · subst h
    exact hI.born x (List.mem_of_getElem? hk)
theorem modify_val (E : List (S24 × Int × Nat)) (k : Nat) (x : S24 × Int × Nat) (v : Int) (hk : E[k]? = some x) : (E.map mkE).toArray.modify k (fun e => { e with val := .int .i64 v }) = ((E.set k (x.1, v, x.2.2)).map mkE).toArray := by
  obtain ⟨hkl, hkx⟩ := List.getElem?_eq_some_iff.1 hk
  apply Array.ext
  · simp
  · intro i h1 h2
    rw [Array.getElem_modify]
    simp only [List.getElem_toArray, List.getElem_map, List.getElem_set]
    split
    · rename_i hik
      subst hik
      rw [hkx]
      rfl
    · rfl
theorem modify_both (E : List (S24 × Int × Nat)) (k : Nat) (x : S24 × Int × Nat) (v : Int) (hk : E[k]? = some x) : (E.map mkE).toArray.modify k (fun e => { e with key := keyV x.1, val := .int .i64 v }) = ((E.set k (x.1, v, x.2.2)).map mkE).toArray := by
  rw [← modify_val E k x v hk]
  obtain ⟨hkl, hkx⟩ := List.getElem?_eq_some_iff.1 hk
  apply Array.ext
  · simp
  · intro i h1 h2
    rw [Array.getElem_modify, Array.getElem_modify]
    simp only [List.getElem_toArray, List.getElem_map]
    split
    · rename_i hik
      subst hik
      rw [hkx]
      rfl
    · rfl
/-- 'm[k] = ..', second half: the entry is written. -/
theorem store_run {w : World} {r : Nat} {m : S24 → Int} {p : S24} {b : Nat} (h : MapStamp w r m p b) (v : Int) : ∃ w' : World, (Instr.entryStore 53 (.map (some r)) (.int .i64 b) (.int .i64 v)).run Try.prog w = .ok () w' ∧ MapAt w' r (upd m p v) ∧ w.grownBy w' (some r) := by
  obtain ⟨E, c, hI, hm, v0, hin⟩ := h
  obtain ⟨k, hk, x, hx, hb⟩ := find_born E b ⟨_, hin, rfl⟩
  have hxp : x.1 = p := by
    obtain ⟨j, hj⟩ := List.getElem?_of_mem hin
    obtain ⟨hjl, hjx⟩ := List.getElem?_eq_some_iff.1 hj
    obtain ⟨hkl, hkx⟩ := List.getElem?_eq_some_iff.1 hx
    by_cases hjk : j = k
    · subst hjk
      rw [hjx] at hkx
      rw [← hkx]
    · have hpw := List.pairwise_iff_getElem.1 hI.born1
      rcases Nat.lt_or_gt_of_ne hjk with h | h
      · have := hpw j k (by simpa using hjl) (by simpa using hkl) h
        simp [hjx, hkx, hb] at this
      · have := hpw k j (by simpa using hkl) (by simpa using hjl) h
        simp [hjx, hkx, hb] at this
  refine ⟨_, ?_, ⟨_, c, set_is v hI hx, fun q => ?_⟩, setObjW_grown w r _⟩
  · have ha : (asInt (.int .i64 (b : Int))).run Try.prog w = .ok (b : Int) w := rfl
    simp only [Instr.entryStore, Sem.run_bind, Sem.run_pure, Result.andThen_ok, MapKept.run_getObj_map hI.blk, ha, hk]
    rw [MapKept.run_setObj_map _ hI.blk, modify_val E k x v hx]
    rfl
  · rw [lookE_set E k hI.keys hx, hxp, hm q]
    rfl
/-- 'm[k] = v' at once. -/
theorem update_run {w : World} {r : Nat} {m : S24 → Int} (h : MapAt w r m) (p : S24) (v : Int) : ∃ w' : World, (Instr.mapUpdate 53 (.map (some r)) (keyV p) (.int .i64 v)).run Try.prog w = .ok () w' ∧ MapAt w' r (upd m p v) ∧ w.grownBy w' (some r) := by
  obtain ⟨E, c, hI, hm⟩ := h
  have hlt : r < w.heap.size := (Array.getElem?_eq_some_iff.1 hI.blk).1
  cases hf : findE p E 0 with
  | none =>
    obtain ⟨hn, h0⟩ := findE_none hf
    refine ⟨setObjW w r (.map ((E ++ [(p, v, c)]).map mkE).toArray (c + 1)), ?_, ⟨E ++ [(p, v, c)], c + 1, ⟨setObjW_same hlt, ?_, ?_, ?_⟩, ?_⟩, setObjW_grown w r _⟩
    · have hpush : ((E.map mkE).toArray.push { key := keyV p, val := .int .i64 v, born := c }) = ((E ++ [(p, v, c)]).map mkE).toArray := by
        apply Array.ext'
        simp [mkE]
      simp only [Instr.mapUpdate, Sem.run_bind, run_underlying Try.underlying53, Result.andThen_ok, MapKept.run_getObj_map hI.blk, check_run, toListE, find_run, hf, hpush]
      rw [MapKept.run_setObj_map _ hI.blk]
      rfl
    · rw [List.map_append, List.pairwise_append]
      refine ⟨hI.keys, List.pairwise_singleton _ _, ?_⟩
      intro a ha b hb
      obtain ⟨x, hx, rfl⟩ := List.mem_map.1 ha
      simp at hb
      subst hb
      intro he
      have := hn x hx
      rw [he, eqL_self] at this
      cases this
    · intro x hx
      rcases List.mem_append.1 hx with hx | hx
      · have := hI.born x hx; omega
      · simp at hx; subst hx; exact Nat.lt_succ_self c
    · rw [List.map_append, List.pairwise_append]
      refine ⟨hI.born1, List.pairwise_singleton _ _, ?_⟩
      intro a ha b hb
      obtain ⟨x, hx, rfl⟩ := List.mem_map.1 ha
      simp at hb
      subst hb
      have := hI.born x hx
      omega
    · intro q
      unfold upd
      rw [← hm q]
      clear hI hf h0 hm
      induction E with
      | nil => simp [lookE]
      | cons x r ih =>
        rw [List.cons_append, lookE, lookE, ih (fun y hy => hn y (List.mem_cons_of_mem _ hy))]
        by_cases h1 : eqL q x.1 = true
        · rw [if_pos h1, if_pos h1, if_neg]
          intro h2
          have := hn x (List.mem_cons_self ..)
          rw [← (eqL_iff _ _).1 h2, h1] at this
          cases this
        · rw [if_neg h1, if_neg h1]
  | some y =>
    obtain ⟨j, u⟩ := y
    obtain ⟨k, x, hj, hk, hx, hv, hl⟩ := findE_some hf
    rw [Nat.zero_add] at hj
    subst hj
    refine ⟨_, ?_, ⟨_, c, set_is v hI hk, fun q => ?_⟩, setObjW_grown w r _⟩
    · have hkl : (E.map mkE).toArray[j]? = some (mkE x) := by simp [hk]
      have hky : (mkE x).key = keyV p := by rw [← hx]; rfl
      have hmod := modify_both E j x v hk
      rw [hx] at hmod
      simp only [Instr.mapUpdate, Sem.run_bind, run_underlying Try.underlying53, Result.andThen_ok, MapKept.run_getObj_map hI.blk, check_run, toListE, find_run, hf, hkl, Option.map_some, Option.getD_some, hky, stays_run]
      rw [MapKept.run_setObj_map _ hI.blk, hmod, hx]
      rfl
    · rw [lookE_set E j hI.keys hk, hx, hm q]
      rfl
end Go.Proofs.Ytameoapnhmoleaa
set_option linter.unusedVariables false
set_option linter.unusedSimpArgs false
namespace Go.Proofs.Ytameoapnhmoleaa
open Go.RowKit Go.Proofs.YtameoapnhmoleaaW.PrintWords Go.Proofs.YtameoapnhmoleaaW.PrintLast Go.Proofs.YtameoapnhmoleaaW.PrintMore
open PP

abbrev Mv := S36
def placeB (p : S24) : Bool := (p.f0 == 1 || p.f0 == 2) && decide (0 ≤ p.f1)
def badM (t : S24) (m : Mv) : Bool := !placeB m.f0 || (!placeB m.f1 && m.f1.f0 != 3) || eqL m.f0 t || eqL m.f1 t
def countL (p : S24) : List Mv → Int
  | [] => 0
  | m :: r => (if eqL p m.f0 = true then 1 else 0) + countL p r
def distinctB : List Mv → Bool
  | [] => true
  | m :: r => (r.all fun x => !eqL m.f0 x.f0) && distinctB r
def refuseK (l : List Mv) (t : S24) : Int := if placeB t = false ∨ l.any (badM t) = true then 131 else if distinctB l = true then 0 else 130
theorem isPlace_any (a b : Int) (w : World) : Calls Try.prog 32 #[.agg #[.int .i64 a, .int .i64 b]] w fun e w' => e = .returned (.bool (placeB ⟨a, b⟩)) ∧ Below w.heap.size w w' := by
  refine moves_isPlace.calls a b _ w ?_
  unfold moves_isPlace.f placeB
  by_cases h1 : a = 1
  · simp [h1]
  · by_cases h2 : a = 2
    · simp [h2]
    · simp [h1, h2]
theorem mv_cells {w : World} {A : Option Addr} {n : Nat} {xs : List Mv} (h : Kd.C k36 w A n xs) (k : Nat) (hk : k < n) : ∃ ad , A = some ad ∧ w.cell? (ad.add (k * 4)) = some (.int .i64 (xs.getD k z36).f0.f0) ∧ w.cell? ⟨(ad.add (k * 4)).block, (ad.add (k * 4)).off + 1, none⟩ = some (.int .i64 (xs.getD k z36).f0.f1) ∧ w.cell? ⟨(ad.add (k * 4)).block, (ad.add (k * 4)).off + 2, none⟩ = some (.int .i64 (xs.getD k z36).f1.f0) ∧ w.cell? ⟨(ad.add (k * 4)).block, (ad.add (k * 4)).off + 3, none⟩ = some (.int .i64 (xs.getD k z36).f1.f1) := by
  obtain ⟨ad, h1, h2⟩ := at_T36 h (k : Int) (by omega) (by omega)
  rw [Int.toNat_natCast] at h2
  unfold rd_T36 at h2
  rw [Int.toNat_natCast] at h2
  exact ⟨ad, h1, h2⟩
theorem ret_int {k : IntKind} {a b : Int} (h : a = b) : Ending.returned (.int k a) = .returned (.int k b) := by rw [h]
theorem cells4 {w : World} {g : Nat} {x0 x1 x2 x3 : Value} {t : TypeId} (h : w.heap[g]? = some (.cells #[x0, x1, x2, x3] t (0, 0))) :
    w.cell? ⟨g, 0, none⟩ = some x0 ∧ w.cell? ⟨g, 1, none⟩ = some x1 ∧ w.cell? ⟨g, 2, none⟩ = some x2 ∧ w.cell? ⟨g, 3, none⟩ = some x3 := by
  refine ⟨?_, ?_, ?_, ?_⟩ <;> simp [World.cell?, h]
theorem cells2 {w : World} {g : Nat} {x0 x1 : Value} {t : TypeId} (h : w.heap[g]? = some (.cells #[x0, x1] t (0, 0))) :
    w.cell? ⟨g, 0, none⟩ = some x0 ∧ w.cell? ⟨g, 1, none⟩ = some x1 := by
  refine ⟨?_, ?_⟩ <;> simp [World.cell?, h]
theorem bad_end {l : List Mv} {t : S24} {m : Mv} {j n : Nat} (hl : l.length = n) (hj : j < n) (hm : l.getD j z36 = m) (hb : badM t m = true) : refuseK l t = 131 := by
  have h : l.any (badM t) = true := by
    rw [List.any_eq_true]
    refine ⟨m, ?_, hb⟩
    rw [← hm, List.getD_eq_getElem?_getD, List.getElem?_eq_getElem (by omega)]
    exact List.getElem_mem _
  unfold refuseK
  rw [if_pos (.inr h)]
theorem ok_next {l : List Mv} {t : S24} {m : Mv} {j : Nat} (h : ∀ k, k < j → badM t (l.getD k z36) = false) (hm : l.getD j z36 = m) (hb : badM t m = false) : ∀ k, k < j + 1 → badM t (l.getD k z36) = false := by
  intro k hk
  by_cases hkj : k = j
  · subst hkj; rw [hm]; exact hb
  · exact h k (by omega)
theorem countL_snoc (p : S24) (m : Mv) : ∀ l : List Mv, countL p (l ++ [m]) = countL p l + if eqL p m.f0 = true then 1 else 0
  | [] => by simp [countL]
  | x :: r => by
    rw [List.cons_append, countL, countL, countL_snoc p m r]
    omega
theorem countL_bounds (p : S24) : ∀ l : List Mv, 0 ≤ countL p l ∧ countL p l ≤ l.length
  | [] => by simp [countL]
  | x :: r => by
    have := countL_bounds p r
    rw [countL, List.length_cons]
    split <;> omega
theorem countL_zero {p : S24} : ∀ {l : List Mv}, countL p l = 0 ↔ (l.all fun x => !eqL p x.f0) = true
  | [] => by simp [countL]
  | x :: r => by
    have := countL_bounds p r
    rw [countL, List.all_cons, Bool.and_eq_true, ← @countL_zero p r]
    by_cases h : eqL p x.f0 = true
    · rw [if_pos h, h]
      simp
      omega
    · rw [if_neg h]
      have h2 : eqL p x.f0 = false := by simpa using h
      simp [h2]
theorem distinct_snoc (m : Mv) : ∀ l : List Mv, distinctB (l ++ [m]) = (distinctB l && (l.all fun x => !eqL m.f0 x.f0))
  | [] => by simp [distinctB]
  | x :: r => by
    rw [List.cons_append, distinctB, distinctB, distinct_snoc m r, List.all_append, List.all_cons, List.all_cons, List.all_nil, eqL_symm m.f0 x.f0]
    cases (r.all fun y => !eqL x.f0 y.f0) <;> cases eqL x.f0 m.f0 <;> cases distinctB r <;> simp
theorem distinct_pre : ∀ (l r : List Mv), distinctB (l ++ r) = true → distinctB l = true
  | l, r, h => by
    induction l with
    | nil => rfl
    | cons x l ih =>
      rw [List.cons_append, distinctB, List.all_append] at h
      simp only [Bool.and_eq_true] at h
      rw [distinctB, h.1.1, ih h.2]
      rfl
theorem take_snoc {l : List Mv} {j : Nat} {m : Mv} (hj : j < l.length) (hm : l.getD j z36 = m) : l.take (j + 1) = l.take j ++ [m] := by
  rw [List.take_succ_eq_append_getElem hj]
  congr 1
  rw [← hm, List.getD_eq_getElem?_getD, List.getElem?_eq_getElem hj]
  rfl
theorem upd_self (m : S24 → Int) (p : S24) (v : Int) : upd m p v p = v := by unfold upd; rw [if_pos (eqL_self p)]
theorem count_next {l : List Mv} {j : Nat} {m : Mv} (hj : j < l.length) (hm : l.getD j z36 = m) : upd (fun p => countL p (l.take j)) m.f0 (countL m.f0 (l.take j) + 1) = fun p => countL p (l.take (j + 1)) := by
  funext p
  rw [take_snoc hj hm, countL_snoc]
  unfold upd
  by_cases h : eqL p m.f0 = true
  · rw [if_pos h, if_pos h, (eqL_iff _ _).1 h]
  · rw [if_neg h, if_neg h]
    dsimp only
    omega
theorem twice_end {l : List Mv} {t : S24} {j : Nat} {m : Mv} (hp : placeB t = true) (hall : l.any (badM t) = false) (hj : j < l.length) (hm : l.getD j z36 = m) (hc : countL m.f0 (l.take j) ≠ 0) : refuseK l t = 130 := by
  unfold refuseK
  rw [if_neg (by rw [hp, hall]; simp), if_neg]
  intro hd
  rw [← List.take_append_drop (j + 1) l] at hd
  have := distinct_pre _ _ hd
  rw [take_snoc hj hm, distinct_snoc, Bool.and_eq_true] at this
  exact hc (countL_zero.2 this.2)
theorem once_next {l : List Mv} {j : Nat} {m : Mv} (hd : distinctB (l.take j) = true) (hj : j < l.length) (hm : l.getD j z36 = m) (hc : countL m.f0 (l.take j) = 0) : distinctB (l.take (j + 1)) = true := by
  rw [take_snoc hj hm, distinct_snoc, hd, countL_zero.1 hc]
  rfl
theorem good_end {l : List Mv} {t : S24} (hp : placeB t = true) (hall : l.any (badM t) = false) (hd : distinctB l = true) : refuseK l t = 0 := by
  unfold refuseK
  rw [if_neg (by rw [hp, hall]; simp), if_pos hd]
attribute [local go_sem high] eqA24
set_option maxHeartbeats 16000000 in
theorem refuse_any (A : Option Addr) (n c : Nat) (l : List Mv) (t : S24) (w : World) (hC : Kd.C k36 w A n l) (hnc : n ≤ c) :
    Calls Try.prog 21 #[.slice A n c, .agg #[.int .i64 t.f0, .int .i64 t.f1]] w fun e w' => e = .returned (.int .i64 (refuseK l t)) ∧ Below w.heap.size w w' := by
  have hn := hC.2.1
  have HC := Lib.hid hC
  have HLL := Lib.hid hC.1
  clear hC
  obtain ⟨t0, t1⟩ := t
  cases hpt : placeB ⟨t0, t1⟩
  · have HP := Lib.hid hpt
    go_enter Try.func21, Try.ntmps21
    go_wp2_with (go_at_call 32; refine (isPlace_any t0 t1 _).mono ?_; rintro e w1 ⟨rfl, hb1⟩; have HB1 := Lib.hid hb1; clear hb1)
    go_ret
    exact ⟨ret_int (by unfold refuseK; rw [if_pos (.inl HP.out)]), below_then ((Below.refl _ _).alloc (Nat.le_refl _) _) (by simp) HB1.out⟩
  · have HP := Lib.hid hpt
    go_enter Try.func21, Try.ntmps21
    go_wp2_with (go_at_call 32; refine (isPlace_any t0 t1 _).mono ?_; rintro e w1 ⟨rfl, hb1⟩; have HRT := Lib.hid (blk_below (heap_alloc_new w (.cells #[.int .i64 t0, .int .i64 t1] 24)) hb1); have HB1 := Lib.hid (below_then ((Below.refl _ _).alloc (Nat.le_refl _) _) (by simp) hb1); clear hb1)
    go_loopw [15] (fun i wr => ∃ j : Nat, j ≤ n ∧ i = .int .i64 j ∧ Hid (∀ k, k < j → badM ⟨t0, t1⟩ (l.getD k z36) = false) ∧ Hid (Below w1.heap.size w1 wr)) (fun i _ => n - (intOf i).toNat)
    case atStart => exact ⟨0, by omega, rfl, Lib.hid (fun k hk => absurd hk (Nat.not_lt_zero k)), Lib.hid (Below.refl _ _)⟩
    case round =>
      obtain ⟨j, hj, rfl, HOK, HRB⟩ := hrel
      by_cases hlt : j < n
      · have HBR := Lib.hid (below_then HB1.out HB1.out.size HRB.out)
        obtain ⟨ad, hA, p0, p1, p2, p3⟩ := mv_cells (Kd.C_below HC.out HBR.out) j hlt
        obtain rfl := hA
        have hrt := blk_below HRT.out HRB.out
        have HMV : Hid (∀ m, l.getD j z36 = m → True) := Lib.hid (fun _ _ => trivial)
        generalize hm : l.getD j z36 = m at *
        have HM := Lib.hid hm
        clear hm
        obtain ⟨⟨a0, a1⟩, ⟨b0, b1⟩⟩ := m
        simp only at p0 p1 p2 p3
        have hrm := heap_alloc_new wr (.cells #[.int .i64 a0, .int .i64 a1, .int .i64 b0, .int .i64 b1] 36)
        have hrt2 := blk_alloc hrt (.cells #[.int .i64 a0, .int .i64 a1, .int .i64 b0, .int .i64 b1] 36)
        have HRM := Lib.hid hrm
        have HRT2 := Lib.hid hrt2
        clear hrm hrt2 hrt
        go_wp2_with fail
        refine (isPlace_any a0 a1 _).mono ?_
        rintro e w2 ⟨rfl, hb2⟩
        have HB2 := Lib.hid (below_then (HRB.out.alloc HRB.out.size (.cells #[.int .i64 a0, .int .i64 a1, .int .i64 b0, .int .i64 b1] 36)) (by rw [World.size_alloc]; have := HRB.out.size; omega) hb2)
        have HRM2 := Lib.hid (blk_below HRM.out hb2)
        have HRT3 := Lib.hid (blk_below HRT2.out hb2)
        clear hb2 p0 p1 p2 p3
        obtain ⟨r0, r1, r2, r3⟩ := cells4 HRM2.out
        obtain ⟨s0, s1⟩ := cells2 HRT3.out
        cases hb1 : placeB ⟨a0, a1⟩
        · have K1 := Lib.hid hb1
          go_wp2_with fail
          go_ret
          exact ⟨ret_int (bad_end HLL.out hlt HM.out (by simp [badM, K1.out])).symm, below_then HB1.out HB1.out.size HB2.out⟩
        · have K1 := Lib.hid hb1
          go_wp2_with fail
          refine (isPlace_any b0 b1 _).mono ?_
          rintro e w3 ⟨rfl, hb3⟩
          have HB3 := Lib.hid (below_then HB2.out HB2.out.size hb3)
          have HRM3 := Lib.hid (blk_below HRM2.out hb3)
          have HRT4 := Lib.hid (blk_below HRT3.out hb3)
          clear hb3 r0 r1 r2 r3 s0 s1
          obtain ⟨r0, r1, r2, r3⟩ := cells4 HRM3.out
          obtain ⟨s0, s1⟩ := cells2 HRT4.out
          cases hb2 : placeB ⟨b0, b1⟩
          · have K2 := Lib.hid hb2
            cases hb3 : (b0 != 3)
            · have K3 := Lib.hid hb3
              cases h4 : (a0 == t0 && (a1 == t1))
              · have K4 := Lib.hid h4
                cases h5 : (b0 == t0 && (b1 == t1))
                · have K5 := Lib.hid h5
                  go_wp2_with fail
                  go_roundw
                  case rel => exact ⟨j + 1, by omega, by go_num, Lib.hid (ok_next HOK.out HM.out (by have e4 := K4.out; have e5 := K5.out; simp only [badM, eqL, K1.out, K2.out, K3.out, e4, e5]; rfl)), HB3⟩
                  case measure => simp [intOf]; omega
                · have K5 := Lib.hid h5
                  go_wp2_with fail
                  go_ret
                  exact ⟨ret_int (bad_end HLL.out hlt HM.out (by have e5 := K5.out; simp only [badM, eqL, K1.out, K2.out, K3.out, e5, Bool.or_true])).symm, below_then HB1.out HB1.out.size HB3.out⟩
              · have K4 := Lib.hid h4
                go_wp2_with fail
                go_ret
                exact ⟨ret_int (bad_end HLL.out hlt HM.out (by have e4 := K4.out; simp only [badM, eqL, K1.out, K2.out, K3.out, e4, Bool.or_true, Bool.true_or])).symm, below_then HB1.out HB1.out.size HB3.out⟩
            · have K3 := Lib.hid hb3
              go_wp2_with fail
              go_ret
              exact ⟨ret_int (bad_end HLL.out hlt HM.out (by have e3 := K3.out; simp only [badM, eqL, K1.out, K2.out, e3]; simp)).symm, below_then HB1.out HB1.out.size HB3.out⟩
          · have K2 := Lib.hid hb2
            cases h4 : (a0 == t0 && (a1 == t1))
            · have K4 := Lib.hid h4
              cases h5 : (b0 == t0 && (b1 == t1))
              · have K5 := Lib.hid h5
                go_wp2_with fail
                go_roundw
                case rel => exact ⟨j + 1, by omega, by go_num, Lib.hid (ok_next HOK.out HM.out (by have e4 := K4.out; have e5 := K5.out; simp only [badM, eqL, K1.out, K2.out, e4, e5]; rfl)), HB3⟩
                case measure => simp [intOf]; omega
              · have K5 := Lib.hid h5
                go_wp2_with fail
                go_ret
                exact ⟨ret_int (bad_end HLL.out hlt HM.out (by have e5 := K5.out; simp only [badM, eqL, K1.out, K2.out, e5, Bool.or_true])).symm, below_then HB1.out HB1.out.size HB3.out⟩
            · have K4 := Lib.hid h4
              go_wp2_with fail
              go_ret
              exact ⟨ret_int (bad_end HLL.out hlt HM.out (by have e4 := K4.out; simp only [badM, eqL, K1.out, K2.out, e4, Bool.or_true, Bool.true_or])).symm, below_then HB1.out HB1.out.size HB3.out⟩
      · obtain rfl : j = n := by omega
        have hall : l.any (badM ⟨t0, t1⟩) = false := by
          rw [Bool.eq_false_iff]
          intro h
          rw [List.any_eq_true] at h
          obtain ⟨m, hm, hb⟩ := h
          obtain ⟨k, hk⟩ := List.getElem?_of_mem hm
          have hkl := (List.getElem?_eq_some_iff.1 hk).1
          have := HOK.out k (by have := HLL.out; omega)
          rw [List.getD_eq_getElem?_getD, hk] at this
          rw [show (some m).getD z36 = m from rfl, hb] at this
          cases this
        have HALL := Lib.hid hall
        have HBR := Lib.hid (below_then HB1.out HB1.out.size HRB.out)
        clear hall
        have hmm := @run_makeMap Try.prog
        go_wp2_with fail
        have hM0 := map_made wr
        have HB5 := Lib.hid (HRB.out.alloc HRB.out.size (.map #[] 0))
        have HB5b := Lib.hid (HBR.out.alloc HBR.out.size (.map #[] 0))
        have hrb := HBR.out.size
        generalize hr : wr.heap.size = r at *
        have HM0 := Lib.hid hM0
        clear hM0 hmm hr
        go_loopw [51] (fun i wr => ∃ k : Nat, k ≤ j ∧ i = .int .i64 k ∧ Hid (MapAt wr r (fun p => countL p (l.take k))) ∧ Hid (distinctB (l.take k) = true) ∧ Hid (Below w.heap.size w wr)) (fun i _ => j - (intOf i).toNat)
        case atStart => exact ⟨0, by omega, rfl, HM0, Lib.hid rfl, HB5b⟩
        case round =>
          obtain ⟨k, hk, rfl, HM, HD, HBQ⟩ := hrel
          by_cases hlt2 : k < j
          · obtain ⟨ad, hA, p0, p1, p2, p3⟩ := mv_cells (Kd.C_below HC.out HBQ.out) k hlt2
            obtain rfl := hA
            generalize hm : l.getD k z36 = m at *
            have HMM := Lib.hid hm
            clear hm
            obtain ⟨⟨a0, a1⟩, ⟨b0, b1⟩⟩ := m
            simp only at p0 p1 p2 p3
            have hlq : k < l.length := by rw [HLL.out]; exact hlt2
            have hcb := countL_bounds ⟨a0, a1⟩ (l.take k)
            have hcl : (l.take k).length ≤ k := by rw [List.length_take]; omega
            have HN := Lib.hid (count_next hlq HMM.out)
            have hMA := HM.out.kept (w1 := (wr.alloc (.cells #[.int .i64 a0, .int .i64 a1, .int .i64 b0, .int .i64 b1] 36)).drew) ((World.grownBy_alloc wr _ none).block r HM.out.lt (by simp))
            have hrm := heap_alloc_new wr (.cells #[.int .i64 a0, .int .i64 a1, .int .i64 b0, .int .i64 b1] 36)
            have hL1 := lookup_run hMA ⟨a0, a1⟩
            obtain ⟨st, W1, hE, hS1, hg1⟩ := entry_run hMA ⟨a0, a1⟩
            have hL2 := lookup_run hS1.at_ ⟨a0, a1⟩
            obtain ⟨W2, hST, hM2, hg2⟩ := store_run hS1 (countL ⟨a0, a1⟩ (l.take k) + 1)
            have hL3 := lookup_run hM2 ⟨a0, a1⟩
            rw [upd_self] at hL3
            have hne : wr.heap.size ≠ r := by have := HM.out.lt; omega
            have hrm1 := blk_grown (show (wr.alloc (.cells #[.int .i64 a0, .int .i64 a1, .int .i64 b0, .int .i64 b1] 36)).drew.heap[wr.heap.size]? = _ from hrm) hg1 (by simpa using hne)
            have hrm2 := blk_grown hrm1 hg2 (by simpa using hne)
            have HB7 : Hid (Below w.heap.size w W2) := Lib.hid (((HBQ.out.alloc HBQ.out.size (.cells #[.int .i64 a0, .int .i64 a1, .int .i64 b0, .int .i64 b1] 36)).drew.grown hg1 (by show w.heap.size ≤ (wr.alloc _).heap.size; rw [World.size_alloc]; have := HBQ.out.size; omega) (fun k hk => by cases hk; exact hrb)).grown hg2 (by have h3 : (wr.alloc (.cells #[.int .i64 a0, .int .i64 a1, .int .i64 b0, .int .i64 b1] 36)).heap.size ≤ W1.heap.size := hg1.size; rw [World.size_alloc] at h3; have h2 := HBQ.out.size; omega) (fun k hk => by cases hk; exact hrb))
            rw [HN.out] at hM2
            have HM2 := Lib.hid hM2
            obtain ⟨q0, q1, _, _⟩ := cells4 hrm2
            unfold keyV at hL1 hL2 hL3 hE
            simp only at hL1 hL2 hL3 hE
            generalize hc : countL ⟨a0, a1⟩ (l.take k) = x at *
            have HCX : Hid (countL ⟨a0, a1⟩ (l.take k) = x) := Lib.hid hc
            clear hMA hS1 hg1 hg2 hM2 hrm hrm1 hrm2 hc HN
            have hx0 := hcb.1
            have hx1 : x ≤ (k : Int) := by omega
            have hx3 : x + 1 ≤ 9223372036854775807 := by omega
            by_cases hx : x ≤ 0
            · have hx2 : ¬ (1 : Int) < x + 1 := by omega
              go_wp2_with fail
              go_region
              go_wp2
              go_roundw
              case rel => exact ⟨k + 1, by omega, by go_num, HM2, Lib.hid (once_next HD.out hlq HMM.out (by rw [HCX.out]; omega)), HB7⟩
              case measure => simp [intOf]; omega
            · have hx2 : (1 : Int) < x + 1 := by omega
              go_wp2_with fail
              go_region
              go_wp2
              go_ret
              exact ⟨ret_int (twice_end HP.out HALL.out hlq HMM.out (by rw [HCX.out]; omega)).symm, HB7.out⟩
          · obtain rfl : k = j := by omega
            go_wp2_with fail
            go_ret
            have hd := HD.out
            rw [List.take_of_length_le (by rw [HLL.out]; exact Nat.le_refl _)] at hd
            exact ⟨ret_int (good_end HP.out HALL.out hd).symm, HBQ.out⟩
end Go.Proofs.Ytameoapnhmoleaa
set_option linter.unusedVariables false
set_option linter.unusedSimpArgs false
namespace Go.Proofs.Ytameoapnhmoleaa
open Go.RowKit Go.Proofs.YtameoapnhmoleaaW.PrintWords Go.Proofs.YtameoapnhmoleaaW.PrintLast Go.Proofs.YtameoapnhmoleaaW.PrintMore
open PP

/-- A kind whose elements lead nowhere. -/
def Flat {α : Type} (d : Kd α) : Prop := ∀ (w w' : World) (base base' : Nat) (ok ok' : Nat → Prop) (x : α) (cs : List Value), d.M w base ok x cs → d.M w' base' ok' x cs
theorem flat_scalar {α : Type} {enc : α → Value} {h1 : ∀ x, (enc x).oneCell' = true} : Flat (Kd.scalar enc h1) := fun _ _ _ _ _ _ _ _ h => h
theorem flat_pair {α β : Type} {a : Kd α} {b : Kd β} (ha : Flat a) (hb : Flat b) : Flat (Kd.pair a b) := fun w w' base base' ok ok' x cs ⟨c0, c1, e, h0, h1⟩ => ⟨c0, c1, e, ha w w' base base' ok ok' _ _ h0, hb w w' base base' ok ok' _ _ h1⟩
theorem flat_iso {α β : Type} {d : Kd α} {f : β → α} (h : Flat d) : Flat (Kd.iso d f) := fun w w' base base' ok ok' x cs hm => h w w' base base' ok ok' _ _ hm
theorem flatI : Flat kI := flat_scalar (enc := Value.int .i64) (h1 := fun _ => rfl)
theorem flat24 : Flat k24 := flat_iso (flat_pair flat_scalar flat_scalar)
theorem flat36 : Flat k36 := flat_iso (flat_pair flat24 flat24)
theorem R_flat {α : Type} {d : Kd α} (hd : Flat d) {e base : Nat} {w w' : World} {ok ok' : Nat → Prop} {v : Value} {xs : List α} (h : d.R e w base ok v xs) (hk : ∀ k, v.ownBlock = some k → w'.heap[k]? = w.heap[k]?) (hok : ∀ k, v.ownBlock = some k → ok' k) : d.R e w' base ok' v xs := by
  obtain ⟨_, inner, hown, hr⟩ := h
  exact ⟨hok, inner, own_move hown hk, hr.imp_ (fun p c hp => hd _ _ _ _ _ _ p c hp)⟩
theorem row_block {α : Type} {d : Kd α} {e base : Nat} {w : World} {ok : Nat → Prop} {v : Value} {xs : List α} (h : d.R e w base ok v xs) {k : Nat} (hk : v.ownBlock = some k) : base ≤ k ∧ ∃ cells, w.heap[k]? = some (.cells cells e (0, 0)) := by
  obtain ⟨inner, ho⟩ := Kd.R_own h
  exact ⟨own_base ho k hk, own_typed ho k hk⟩

structure WS where
  left : List Mv
  done : List Int
  reads : S24 → Int
  sets : S24 → Int
  ready : List Int
  out : List Mv
structure IsWV (w : World) (base B : Nat) (s : WS) (vl vd vr vo : Value) (r t : Nat) : Prop where
  blk : w.heap[B]? = some (.cells #[vl, vd, .map (some r), .map (some t), vr, vo] 56 (0, 0))
  bB : base ≤ B
  br : base ≤ r
  bt : base ≤ t
  rt : r ≠ t
  left : k36.R 36 w base (fun _ => True) vl s.left
  done : kI.R 3 w base (fun _ => True) vd s.done
  ready : kI.R 3 w base (fun _ => True) vr s.ready
  out : k36.R 36 w base (fun _ => True) vo s.out
  reads : MapAt w r s.reads
  sets : MapAt w t s.sets
  ne1 : NeRow vl vo
  ne2 : NeRow vd vr
def IsW (w : World) (base B : Nat) (s : WS) : Prop := ∃ vl vd vr vo r t, IsWV w base B s vl vd vr vo r t
theorem not_map {w : World} {r k : Nat} {m : S24 → Int} {cs : Array Value} {ty : TypeId} (h : MapAt w r m) (hk : w.heap[k]? = some (.cells cs ty (0, 0))) : k ≠ r := by
  rintro rfl
  obtain ⟨E, c, h1, _⟩ := h
  rw [h1.blk] at hk
  cases hk
section
variable {w w' : World} {base B : Nat} {s : WS} {vl vd vr vo : Value} {r t : Nat}
theorem IsWV.lt (h : IsWV w base B s vl vd vr vo r t) : B < w.heap.size := blk_lt h.blk
/-- All stays where none of its blocks is written. -/
theorem IsWV.kept (h : IsWV w base B s vl vd vr vo r t) {S : Nat → Prop} (hF : Fr w w' S) (hS : ∀ k, S k → w.heap.size ≤ k) : IsWV w' base B s vl vd vr vo r t := by
  have hb : ∀ k, k < w.heap.size → w'.heap[k]? = w.heap[k]? := fun k hk => hF.2.2.2.2 k hk (fun h => by have := hS k h; omega)
  have row : ∀ {v : Value} {ty : Nat}, (∀ k, v.ownBlock = some k → base ≤ k ∧ ∃ cells, w.heap[k]? = some (.cells cells ty (0, 0))) → ∀ k, v.ownBlock = some k → w'.heap[k]? = w.heap[k]? := fun h k hk => hb k (by obtain ⟨_, c, hc⟩ := h k hk; exact blk_lt hc)
  exact ⟨(hb B h.lt).trans h.blk, h.bB, h.br, h.bt, h.rt, R_flat flat36 h.left (row (fun k hk => row_block h.left hk)) (fun _ _ => trivial), R_flat flatI h.done (row (fun k hk => row_block h.done hk)) (fun _ _ => trivial),
    R_flat flatI h.ready (row (fun k hk => row_block h.ready hk)) (fun _ _ => trivial), R_flat flat36 h.out (row (fun k hk => row_block h.out hk)) (fun _ _ => trivial), h.reads.kept (hb r h.reads.lt), h.sets.kept (hb t h.sets.lt), h.ne1, h.ne2⟩
theorem IsWV.alloc (h : IsWV w base B s vl vd vr vo r t) (o : Obj) : IsWV (w.alloc o) base B s vl vd vr vo r t := h.kept (S := fun _ => False) (Fr.alloc (Fr.refl w _) o) (fun _ hk => hk.elim)
theorem IsWV.drewN (h : IsWV w base B s vl vd vr vo r t) (n : Nat) : IsWV (w.drewN n) base B s vl vd vr vo r t := h.kept (S := fun _ => False) (Fr.drewN (Fr.refl w _) n) (fun _ hk => hk.elim)
theorem IsWV.drew (h : IsWV w base B s vl vd vr vo r t) : IsWV w.drew base B s vl vd vr vo r t := h.kept (S := fun _ => False) (Fr.drewN (Fr.refl w _) 1) (fun _ hk => hk.elim)
/-- A block of the state's own kind is none of its rows. -/
theorem row_ne {α : Type} {d : Kd α} {e : Nat} {ok : Nat → Prop} {v : Value} {xs : List α} (h : d.R e w base ok v xs) {k : Nat} {cs : Array Value} {ty : TypeId} (hk : w.heap[k]? = some (.cells cs ty (0, 0))) (hne : e ≠ ty) : v.ownBlock ≠ some k := by
  intro he
  obtain ⟨_, c, hc⟩ := row_block h he
  rw [hk] at hc
  cases hc
  exact hne rfl
theorem row_ne_row {α β : Type} {d : Kd α} {d' : Kd β} {e e' : Nat} {ok ok' : Nat → Prop} {v v' : Value} {xs : List α} {ys : List β} (h : d.R e w base ok v xs) (h' : d'.R e' w base ok' v' ys) (hne : e ≠ e') : ∀ k, v.ownBlock = some k → v'.ownBlock ≠ some k := by
  intro k hk
  obtain ⟨_, c, hc⟩ := row_block h hk
  exact row_ne h' hc (Ne.symm hne)
theorem row_ne_map {α : Type} {d : Kd α} {e : Nat} {ok : Nat → Prop} {v : Value} {xs : List α} {m : S24 → Int} (h : d.R e w base ok v xs) (hm : MapAt w r m) : ∀ k, v.ownBlock = some k → k ≠ r := by
  intro k hk
  obtain ⟨_, c, hc⟩ := row_block h hk
  exact not_map hm hc
theorem IsWV.heap (h : IsWV w base B s vl vd vr vo r t) : HeapAt w base B 4 56 #[vl, vd, .map (some r), .map (some t), vr, vo] vr s.ready :=
  ⟨h.blk, rfl, R_flat flatI h.ready (fun _ _ => rfl) (fun k hk he => row_ne h.ready h.blk (by decide) (he ▸ hk))⟩
/-- The heap of ready moves has been written. -/
theorem IsWV.heaped {vr' : Value} {xs : List Int} (h : IsWV w base B s vl vd vr vo r t) (k : HeapTo w w' base B 4 56 #[vl, vd, .map (some r), .map (some t), vr, vo] vr vr' xs) (hb : base ≤ w.heap.size) : IsWV w' base B { s with ready := xs } vl vd vr' vo r t ∧ Fr w w' (fun k => base ≤ k) := by
  obtain ⟨k1, k2, k3⟩ := k
  have hS : ∀ q, q < w.heap.size → q ≠ B → vr.ownBlock ≠ some q → w'.heap[q]? = w.heap[q]? := fun q hq h1 h2 => k3.2.2.2.2 q hq (fun h => h.elim h1 (fun h => h2 h.symm))
  have hrl := fun k hk => row_ne_row h.left h.ready (by decide) k hk
  have hro := fun k hk => row_ne_row h.out h.ready (by decide) k hk
  have hlt : ∀ {α : Type} {d : Kd α} {e : Nat} {ok : Nat → Prop} {v : Value} {xs : List α}, d.R e w base ok v xs → ∀ k, v.ownBlock = some k → k < w.heap.size := fun h k hk => by
    obtain ⟨_, c, hc⟩ := row_block h hk
    exact blk_lt hc
  have hmapr : vr.ownBlock ≠ some r := fun he => row_ne_map h.ready h.reads r he rfl
  have hmapt : vr.ownBlock ≠ some t := fun he => row_ne_map h.ready h.sets t he rfl
  refine ⟨⟨k1.blk, h.bB, h.br, h.bt, h.rt, ?_, ?_, R_flat flatI k1.row (fun _ _ => rfl) (fun _ _ => trivial), ?_, ?_, ?_, h.ne1, ?_⟩, ?_⟩
  · exact R_flat flat36 h.left (fun k hk => hS k (hlt h.left k hk) (fun he => row_ne h.left h.blk (by decide) (he ▸ hk)) (hrl k hk)) (fun _ _ => trivial)
  · exact R_flat flatI h.done (fun k hk => hS k (hlt h.done k hk) (fun he => row_ne h.done h.blk (by decide) (he ▸ hk)) (h.ne2 k hk)) (fun _ _ => trivial)
  · exact R_flat flat36 h.out (fun k hk => hS k (hlt h.out k hk) (fun he => row_ne h.out h.blk (by decide) (he ▸ hk)) (hro k hk)) (fun _ _ => trivial)
  · exact h.reads.kept (hS r h.reads.lt (fun he => not_map h.reads h.blk he.symm) hmapr)
  · exact h.sets.kept (hS t h.sets.lt (fun he => not_map h.sets h.blk he.symm) hmapt)
  · intro k hk hk'
    rcases k2 with e | ⟨b, e, hb2⟩
    · exact h.ne2 k hk (e ▸ hk')
    · rw [e] at hk'
      cases hk'
      have := hlt h.done _ hk
      omega
  · refine k3.mono ?_
    rintro q (rfl | hq)
    · exact h.bB
    · exact (row_block h.ready hq.symm).1
/-- The map of how many read a place has been written. -/
theorem IsWV.readsd {m : S24 → Int} (h : IsWV w base B s vl vd vr vo r t) (hg : w.grownBy w' (some r)) (hm : MapAt w' r m) : IsWV w' base B { s with reads := m } vl vd vr vo r t := by
  have hS : ∀ q, q < w.heap.size → q ≠ r → w'.heap[q]? = w.heap[q]? := fun q hq h1 => hg.block q hq (by simpa using h1)
  have row : ∀ {α : Type} {d : Kd α} {e : Nat} {ok : Nat → Prop} {v : Value} {xs : List α}, d.R e w base ok v xs → ∀ k, v.ownBlock = some k → w'.heap[k]? = w.heap[k]? := fun h2 k hk => by
    obtain ⟨_, c, hc⟩ := row_block h2 hk
    exact hS k (blk_lt hc) (row_ne_map h2 h.reads k hk)
  exact ⟨(hS B h.lt (not_map h.reads h.blk)).trans h.blk, h.bB, h.br, h.bt, h.rt, R_flat flat36 h.left (row h.left) (fun _ _ => trivial), R_flat flatI h.done (row h.done) (fun _ _ => trivial), R_flat flatI h.ready (row h.ready) (fun _ _ => trivial),
    R_flat flat36 h.out (row h.out) (fun _ _ => trivial), hm, h.sets.kept (hS t h.sets.lt (Ne.symm h.rt)), h.ne1, h.ne2⟩
theorem IsWV.setsd {m : S24 → Int} (h : IsWV w base B s vl vd vr vo r t) (hg : w.grownBy w' (some t)) (hm : MapAt w' t m) : IsWV w' base B { s with sets := m } vl vd vr vo r t := by
  have hS : ∀ q, q < w.heap.size → q ≠ t → w'.heap[q]? = w.heap[q]? := fun q hq h1 => hg.block q hq (by simpa using h1)
  have row : ∀ {α : Type} {d : Kd α} {e : Nat} {ok : Nat → Prop} {v : Value} {xs : List α}, d.R e w base ok v xs → ∀ k, v.ownBlock = some k → w'.heap[k]? = w.heap[k]? := fun h2 k hk => by
    obtain ⟨_, c, hc⟩ := row_block h2 hk
    exact hS k (blk_lt hc) (row_ne_map h2 h.sets k hk)
  exact ⟨(hS B h.lt (not_map h.sets h.blk)).trans h.blk, h.bB, h.br, h.bt, h.rt, R_flat flat36 h.left (row h.left) (fun _ _ => trivial), R_flat flatI h.done (row h.done) (fun _ _ => trivial), R_flat flatI h.ready (row h.ready) (fun _ _ => trivial),
    R_flat flat36 h.out (row h.out) (fun _ _ => trivial), h.reads.kept (hS r h.reads.lt h.rt), hm, h.ne1, h.ne2⟩
end
def freeS (s : WS) (p : S24) : WS :=
  { s with reads := upd s.reads p (s.reads p - 1), ready := if s.reads p = 1 ∧ 0 < s.sets p ∧ rd s.done (s.sets p - 1) = 0 then pushL s.ready (s.sets p - 1) else s.ready }
theorem blk6 {w : World} {B : Nat} {a b c d e f : Value} (h : w.heap[B]? = some (.cells #[a, b, c, d, e, f] 56 (0, 0))) : w.cell? ⟨B, 0, none⟩ = some a ∧ w.cell? ⟨B, 1, none⟩ = some b ∧ w.cell? ⟨B, 2, none⟩ = some c ∧ w.cell? ⟨B, 3, none⟩ = some d ∧ w.cell? ⟨B, 4, none⟩ = some e ∧ w.cell? ⟨B, 5, none⟩ = some f := by
  refine ⟨?_, ?_, ?_, ?_, ?_, ?_⟩ <;> · rw [blk_cell h]; rfl
theorem int_row {w : World} {base : Nat} {v : Value} {xs : List Int} (h : kI.R 3 w base (fun _ => True) v xs) : ∃ A c, v = .slice A xs.length c ∧ xs.length ≤ c ∧ ReadsInt w .i64 A xs.length xs := by
  obtain ⟨A, c, e, hc, hC⟩ := Kd.R_reads h
  exact ⟨A, c, e, hc, Kd.reads_of_C (enc := Value.int .i64) (h1 := fun _ => rfl) (d := (0 : Int)) hC⟩
end Go.Proofs.Ytameoapnhmoleaa
set_option linter.unusedVariables false
set_option linter.unusedSimpArgs false
namespace Go.Proofs.Ytameoapnhmoleaa
open Go.RowKit Go.Proofs.YtameoapnhmoleaaW.PrintWords Go.Proofs.YtameoapnhmoleaaW.PrintLast Go.Proofs.YtameoapnhmoleaaW.PrintMore
open PP

set_option maxHeartbeats 400000 in
theorem free_any (base B : Nat) (s : WS) (vl vd vr vo : Value) (r t : Nat) (p : S24) (w : World) (h : IsWV w base B s vl vd vr vo r t) (hbw : base ≤ w.heap.size) (hl : s.ready.length ≤ 1000000) (hd : s.done.length ≤ 1000000) (hr : -1000000 ≤ s.reads p ∧ s.reads p ≤ 1000000) (hs : 0 ≤ s.sets p ∧ s.sets p ≤ s.done.length) :
    Calls Try.prog 25 #[.pointer (some ⟨B, 0, none⟩), .agg #[.int .i64 p.f0, .int .i64 p.f1]] w fun e w' => e = .returned (.tuple #[]) ∧ (∃ vr', IsWV w' base B (freeS s p) vl vd vr' vo r t) ∧ Fr w w' (fun k => base ≤ k) := by
  have HX := Lib.hid hr
  have HS := Lib.hid hs
  have H1 := Lib.hid (h.alloc (.cells #[.int .i64 p.f0, .int .i64 p.f1] 24))
  have HF1 := Lib.hid (Fr.alloc (Fr.refl w (fun k => base ≤ k)) (.cells #[.int .i64 p.f0, .int .i64 p.f1] 24))
  have hbx := heap_alloc_new w (.cells #[.int .i64 p.f0, .int .i64 p.f1] 24)
  have hL1 := lookup_run (h.reads.kept (w1 := (w.alloc (.cells #[.int .i64 p.f0, .int .i64 p.f1] 24)).drew) ((World.grownBy_alloc w _ none).block r h.reads.lt (by simp))) p
  obtain ⟨st, W1, hE, hS1, hg1⟩ := entry_run (h.reads.kept (w1 := (w.alloc (.cells #[.int .i64 p.f0, .int .i64 p.f1] 24)).drew) ((World.grownBy_alloc w _ none).block r h.reads.lt (by simp))) p
  obtain ⟨W2, hST, hM2, hg2⟩ := store_run hS1 (s.reads p - 1)
  have hL4 := lookup_run hS1.at_ p
  have hk1 := (H1.out.drewN 1).readsd hg1 hS1.at_
  have hk2 := hk1.readsd hg2 hM2
  have hne : w.heap.size ≠ r := by have := h.reads.lt; omega
  have hbx2 := blk_grown (blk_grown (show (w.alloc (.cells #[.int .i64 p.f0, .int .i64 p.f1] 24)).drew.heap[w.heap.size]? = _ from hbx) hg1 (by simpa using hne)) hg2 (by simpa using hne)
  have HF2 := Lib.hid ((((HF1.out.drewN 1).then_ (Fr.of_grown hg1 (S := fun k => base ≤ k) (fun k hk => by cases hk; exact h.br)) (fun k hk => .inl hk)).then_ (Fr.of_grown hg2 (S := fun k => base ≤ k) (fun k hk => by cases hk; exact h.br)) (fun k hk => .inl hk)))
  have HK2 := Lib.hid hk2
  obtain ⟨c0, c1, c2, c3, c4, c5⟩ := blk6 H1.out.blk
  obtain ⟨e0, e1, e2, e3, e4, e5⟩ := blk6 hk2.blk
  obtain ⟨q0, q1⟩ := cells2 hbx
  obtain ⟨q2, q3⟩ := cells2 hbx2
  have hL2 := fun n => lookup_run (hk2.drewN n).sets p
  obtain ⟨A, c, rfl, hnc, hrd⟩ := int_row h.done
  unfold keyV at hL1 hL2 hL4 hE
  have HBX2 := Lib.hid hbx2
  clear hk1 hk2 hM2 hg2 hg1 hS1 hrd hbx hbx2 h
  have HQ : Hid (freeS s p = { s with reads := upd s.reads p (s.reads p - 1), ready := if s.reads p = 1 ∧ 0 < s.sets p ∧ rd s.done (s.sets p - 1) = 0 then pushL s.ready (s.sets p - 1) else s.ready }) := Lib.hid rfl
  generalize hx : s.reads p = x at *
  generalize hy : s.sets p = y at *
  have hx0 := hr.1
  have hx1 := hr.2
  have hy0 := hs.1
  have hy1 := hs.2
  clear hr hs hx hy
  go_enter Try.func25, Try.ntmps25
  go_wp2_with fail
  go_region
  go_wp2_with fail
  go_quiet (fail)
  have HK3 := Lib.hid (HK2.out.drewN nq)
  have HF3 := Lib.hid (HF2.out.drewN nq)
  have hbx3 := (show (W2.drewN nq).heap[w.heap.size]? = _ from HBX2.out)
  clear hL2 e0 e1 e2 e3 e4 e5 q2 q3
  generalize hW3 : W2.drewN nq = W3 at *
  have hL3 := fun n => lookup_run (HK3.out.drewN n).reads p
  simp only [upd_self] at hL3
  obtain ⟨e0, e1, e2, e3, e4, e5⟩ := blk6 HK3.out.blk
  obtain ⟨q2, q3⟩ := cells2 hbx3
  obtain ⟨A', c', e', hnc', hrd⟩ := int_row HK3.out.done
  cases e'
  change ReadsInt W3 .i64 A s.done.length s.done at hrd
  unfold keyV at hL3
  clear hW3 HBX2 HK2 HF2 hbx3
  by_cases h1 : x - 1 = 0
  · have hdg : (x - 1 == 0) = true := by rw [h1]; rfl
    by_cases h2 : 0 < y
    · obtain ⟨k, rfl⟩ : ∃ k : Nat, y = (k : Int) + 1 := ⟨(y - 1).toNat, by omega⟩
      have hk : k < s.done.length := by omega
      have hk2 : (k : Int) < s.done.length := by omega
      have ek : (k : Int) + 1 - 1 = (k : Int) := by omega
      obtain ⟨ad, hA, hx⟩ := hrd.at_ (k : Int) (by omega) (by omega)
      obtain rfl := hA
      rw [Int.toNat_natCast] at hx
      have hdg2 : decide (0 < (k : Int) + 1) = true := decide_eq_true h2
      have hyw : IntKind.i64.wrap ((k : Int) + 1 - 1) = (k : Int) := by rw [IntKind.wrap_i64] <;> omega
      rw [ek] at HQ
      generalize hz : rd s.done (k : Int) = z at *
      by_cases h3 : z = 0
      · have hdg3 : (z == 0) = true := by rw [h3]; rfl
        go_wp2_with fail
        go_quiet (fail)
        go_wp2_with fail
        refine (hpush_any base B 4 56 _ vr s.ready (k : Int) _ (by exact (HK3.out.drewN nq).heap) (by have := (HF3.out).size; simp; omega) hl).mono ?_
        rintro e w4 ⟨rfl, vr4, hT⟩
        have HT4 := Lib.hid hT
        clear hT
        go_wp2_with fail
        go_end0
        obtain ⟨k1, k2⟩ := (HK3.out.drewN nq).heaped HT4.out (by have := (HF3.out).size; simp; omega)
        refine ⟨rfl, ⟨vr4, ?_⟩, ?_⟩
        · rw [HQ.out, if_pos ⟨by omega, h2, h3⟩]
          exact k1
        · exact (HF3.out.drewN nq).then_ k2 (fun k hk => .inl hk)
      · have hdg3 : (z == 0) = false := by simpa using h3
        go_wp2_with fail
        go_quiet (fail)
        go_wp2_with fail
        go_end0
        refine ⟨rfl, ⟨vr, ?_⟩, ?_⟩
        · rw [HQ.out, if_neg (by rintro ⟨_, _, h⟩; exact h3 h)]
          exact HK3.out.drewN nq
        · exact HF3.out.drewN nq
    · have hdg2 : decide (0 < y) = false := decide_eq_false h2
      go_wp2_with fail
      go_quiet (fail)
      go_wp2_with fail
      go_end0
      refine ⟨rfl, ⟨vr, ?_⟩, ?_⟩
      · rw [HQ.out, if_neg (by rintro ⟨_, h, _⟩; omega)]
        exact HK3.out.drewN nq
      · exact HF3.out.drewN nq
  · have hdg : (x - 1 == 0) = false := by simpa using h1
    go_wp2_with fail
    go_quiet (fail)
    go_wp2_with fail
    go_end0
    refine ⟨rfl, ⟨vr, ?_⟩, ?_⟩
    · rw [HQ.out, if_neg (by rintro ⟨h, _⟩; omega)]
      exact HK3.out.drewN nq
    · exact HF3.out.drewN nq
end Go.Proofs.Ytameoapnhmoleaa
set_option linter.unusedVariables false
set_option linter.unusedSimpArgs false
namespace Go.Proofs.Ytameoapnhmoleaa
open Go.RowKit Go.Proofs.YtameoapnhmoleaaW.PrintWords Go.Proofs.YtameoapnhmoleaaW.PrintLast Go.Proofs.YtameoapnhmoleaaW.PrintMore
open PP

noncomputable def zero36 : Value := ((Try.prog.info? 36).bind (·.zero)).getD undef
theorem info36 : (Try.prog.info? 36).map (fun i => (i.zero, i.size, i.bytes)) = some (some zero36, 4, 32) := by kernel_rfl
theorem size36 : zero36.cells.size = 4 := by kernel_rfl
theorem k36_mem {w : World} {base : Nat} {ok : Nat → Prop} (a0 a1 b0 b1 : Int) : k36.M w base ok ⟨⟨a0, a1⟩, ⟨b0, b1⟩⟩ [.int .i64 a0, .int .i64 a1, .int .i64 b0, .int .i64 b1] :=
  ⟨[.int .i64 a0, .int .i64 a1], [.int .i64 b0, .int .i64 b1], rfl, ⟨[.int .i64 a0], [.int .i64 a1], rfl, rfl, rfl⟩, ⟨[.int .i64 b0], [.int .i64 b1], rfl, rfl, rfl⟩⟩
section
variable {w w' w1 : World} {base B : Nat} {s : WS} {vl vd vr vo vo1 : Value} {r t : Nat} {x : Mv}
/-- A block of this state's own rows. -/
theorem IsWV.rowlt {α : Type} {d : Kd α} {e : Nat} {ok : Nat → Prop} {v : Value} {xs : List α} (h : d.R e w base ok v xs) : ∀ k, v.ownBlock = some k → k < w.heap.size := fun k hk => by
  obtain ⟨_, c, hc⟩ := row_block h hk
  exact blk_lt hc
/-- What is put out has been written. -/
theorem IsWV.outed (h : IsWV w base B s vl vd vr vo r t) (hb : base ≤ w.heap.size) (hR : k36.R 36 w1 base (fun _ => True) vo1 (s.out ++ [x])) (hg : w.grownBy w1 vo.ownBlock) (hat : vo1.ownBlock = vo.ownBlock ∨ ∃ b, vo1.ownBlock = some b ∧ w.heap.size ≤ b) :
    IsWV (w1.setCell ⟨B, 5, none⟩ vo1) base B { s with out := s.out ++ [x] } vl vd vr vo1 r t ∧ Fr w (w1.setCell ⟨B, 5, none⟩ vo1) (fun k => base ≤ k) := by
  have hneB : vo.ownBlock ≠ some B := row_ne h.out h.blk (by decide)
  have hb1 : w1.heap[B]? = _ := (hg.block B h.lt (Ne.symm hneB)).trans h.blk
  have hne1 : vo1.ownBlock ≠ some B := by
    rcases hat with e | ⟨b, e, hb2⟩
    · rwa [e]
    · rw [e]
      intro he
      cases he
      have := h.lt
      omega
  have hS : ∀ q, q < w.heap.size → q ≠ B → vo.ownBlock ≠ some q → (w1.setCell ⟨B, 5, none⟩ vo1).heap[q]? = w.heap[q]? := fun q hq h1 h2 => (Below.heap_setCell w1 ⟨B, 5, none⟩ vo1 q h1).trans (hg.block q hq (Ne.symm h2))
  have rows : ∀ {α : Type} {d : Kd α} {e : Nat} {ok : Nat → Prop} {v : Value} {xs : List α}, d.R e w base ok v xs → e ≠ 56 → (∀ k, v.ownBlock = some k → vo.ownBlock ≠ some k) → ∀ k, v.ownBlock = some k → (w1.setCell ⟨B, 5, none⟩ vo1).heap[k]? = w.heap[k]? := fun h2 he hn k hk => hS k (IsWV.rowlt h2 k hk) (fun e => row_ne h2 h.blk he (e ▸ hk)) (hn k hk)
  refine ⟨⟨blk_set hb1 5 vo1, h.bB, h.br, h.bt, h.rt, ?_, ?_, ?_, ?_, ?_, ?_, ?_, h.ne2⟩, ?_⟩
  · exact R_flat flat36 h.left (rows h.left (by decide) h.ne1) (fun _ _ => trivial)
  · exact R_flat flatI h.done (rows h.done (by decide) (row_ne_row h.done h.out (by decide))) (fun _ _ => trivial)
  · exact R_flat flatI h.ready (rows h.ready (by decide) (row_ne_row h.ready h.out (by decide))) (fun _ _ => trivial)
  · exact R_flat flat36 hR (fun k hk => Below.heap_setCell w1 ⟨B, 5, none⟩ vo1 k (fun e => hne1 (by rw [hk]; exact congrArg some e))) (fun _ _ => trivial)
  · exact h.reads.kept (hS r h.reads.lt (fun e => not_map h.reads h.blk e.symm) (fun e => row_ne_map h.out h.reads r e rfl))
  · exact h.sets.kept (hS t h.sets.lt (fun e => not_map h.sets h.blk e.symm) (fun e => row_ne_map h.out h.sets t e rfl))
  · intro k hk hk'
    rcases hat with e | ⟨b, e, hb2⟩
    · exact h.ne1 k hk (e ▸ hk')
    · rw [e] at hk'
      cases hk'
      have := IsWV.rowlt h.left _ hk
      omega
  · exact Fr.set (p := ⟨B, 5, none⟩) (Fr.of_grown hg (fun k hk => (row_block h.out hk).1)) (.inl h.bB) vo1
/-- A number of 'done' has been written. -/
theorem IsWV.doned {g n c : Nat} (h : IsWV w base B s vl (.slice (some ⟨g, 0, none⟩) n c) vr vo r t) (i : Nat) (y : Int) : IsWV (w.setCell ⟨g, i, none⟩ (.int .i64 y)) base B { s with done := s.done.set i y } vl (.slice (some ⟨g, 0, none⟩) n c) vr vo r t ∧ Fr w (w.setCell ⟨g, i, none⟩ (.int .i64 y)) (fun k => base ≤ k) := by
  have ho : (Value.slice (some ⟨g, 0, none⟩) n c).ownBlock = some g := by simp [Value.ownBlock]
  have hS : ∀ q, q ≠ g → (w.setCell ⟨g, i, none⟩ (.int .i64 y)).heap[q]? = w.heap[q]? := fun q h1 => Below.heap_setCell w ⟨g, i, none⟩ _ q h1
  have hgB : g ≠ B := fun e => row_ne h.done h.blk (by decide) (by rw [ho, e])
  refine ⟨⟨(hS B hgB.symm).trans h.blk, h.bB, h.br, h.bt, h.rt, ?_, kI_put h.done i y, ?_, ?_, ?_, ?_, h.ne1, h.ne2⟩, ?_⟩
  · exact R_flat flat36 h.left (fun k hk => hS k (fun e => row_ne_row h.left h.done (by decide) k hk (by rw [ho, e]))) (fun _ _ => trivial)
  · exact R_flat flatI h.ready (fun k hk => hS k (fun e => h.ne2 k (by rw [ho, e]) hk)) (fun _ _ => trivial)
  · exact R_flat flat36 h.out (fun k hk => hS k (fun e => row_ne_row h.out h.done (by decide) k hk (by rw [ho, e]))) (fun _ _ => trivial)
  · exact h.reads.kept (hS r (fun e => row_ne_map h.done h.reads g ho e.symm))
  · exact h.sets.kept (hS t (fun e => row_ne_map h.done h.sets g ho e.symm))
  · exact Fr.set (p := ⟨g, i, none⟩) (Fr.refl w _) (.inl (row_block h.done ho).1) _
end
def putS (s : WS) (m : Mv) (i : Nat) : WS := freeS { s with out := s.out ++ [m], done := s.done.set i 1 } m.f1
set_option maxHeartbeats 16000000 in
theorem put_any (base B : Nat) (s : WS) (vl vd vr vo : Value) (r t i : Nat) (w : World) (h : IsWV w base B s vl vd vr vo r t) (hbw : base ≤ w.heap.size) (hl : s.ready.length ≤ 1000000) (hd : s.done.length ≤ 1000000) (ho : s.out.length ≤ 1000000) (hi : i < s.left.length) (hid : i < s.done.length)
    (hr : -1000000 ≤ s.reads (s.left.getD i z36).f1 ∧ s.reads (s.left.getD i z36).f1 ≤ 1000000) (hs : 0 ≤ s.sets (s.left.getD i z36).f1 ∧ s.sets (s.left.getD i z36).f1 ≤ s.done.length) :
    Calls Try.prog 23 #[.pointer (some ⟨B, 0, none⟩), .int .i64 (i : Int)] w fun e w' => e = .returned (.tuple #[]) ∧ (∃ vr' vo', IsWV w' base B (putS s (s.left.getD i z36) i) vl vd vr' vo' r t) ∧ Fr w w' (fun k => base ≤ k) := by
  have H := Lib.hid h
  have HR := Lib.hid hr
  have HS := Lib.hid hs
  have HID := Lib.hid hid
  obtain ⟨c0, c1, c2, c3, c4, c5⟩ := blk6 h.blk
  have z5 := blk_frozen h.blk 5
  obtain ⟨Al, cl, rfl, hncl, hC⟩ := Kd.R_reads h.left
  obtain ⟨Ao, co, rfl, hnco, _⟩ := Kd.R_reads h.out
  obtain ⟨g, cd, hvd, hncd⟩ := Kd.R_form h.done (by omega)
  subst hvd
  obtain ⟨ad, hA, p0, p1, p2, p3⟩ := mv_cells hC i hi
  obtain rfl := hA
  have hlt := h.lt
  generalize hm : s.left.getD i z36 = m at *
  have HM := Lib.hid hm
  obtain ⟨⟨a0, a1⟩, ⟨b0, b1⟩⟩ := m
  simp only at p0 p1 p2 p3
  have hil : (i : Int) < s.left.length := by omega
  clear h hr hs hm hC
  go_enter Try.func23, Try.ntmps23
  go_wp2_with fail
  go_region_law (first | (refine app_step k36 w.drew base (by rfl) (.tmp 8) (.tmp 16) 22 36 zero36 32 (by rfl) Try.underlying22 info36 size36 (by decide) (by decide) (.slice Ao s.out.length co) s.out ⟨⟨a0, a1⟩, ⟨b0, b1⟩⟩ [.int .i64 a0, .int .i64 a1, .int .i64 b0, .int .i64 b1] (by rfl) (fun _ => True) (by rfl) (by rfl) (k36_mem a0 a1 b0 b1) (fun _ _ => trivial) (by exact Kd.R_drew H.out.out) (by exact hbw) (by omega) ?_; intro v1 w1 hR1 hg1 hat1; obtain ⟨A1, k1, e1⟩ := Kd.R_slice hR1; rw [List.length_append, List.length_singleton] at e1; subst e1; have HO := Lib.hid (H.out.drew.outed hbw hR1 hg1 hat1); have hb1 := blk_grown (show w.drew.heap[B]? = _ from H.out.blk) hg1 (Ne.symm (row_ne H.out.out H.out.blk (by decide))); have c1 := (blk6 hb1).2.2.2.2.2; have z1 := blk_frozen hb1 5; clear hR1 hg1 hat1 hb1))
  all_goals
    obtain ⟨hk3, hf3⟩ := HO.out
    have HF3 := Lib.hid hf3
    clear hf3 HO c0 c1 c2 c3 c4 c5 z5 z1 p0 p1 p2 p3
    generalize hW3 : w1.setCell ⟨B, 5, none⟩ (.slice A1 (s.out.length + 1) k1) = W3 at *
    clear hW3
    obtain ⟨c0, c1, c2, c3, c4, c5⟩ := blk6 hk3.blk
    obtain ⟨d1, d2⟩ := kI_cell hk3.done i HID.out
    simp only at d1
    obtain ⟨hk4, hf4⟩ := hk3.doned i 1
    have HK4 := Lib.hid hk4
    have HF4 := Lib.hid hf4
    have hidi : (i : Int) < s.done.length := by have := HID.out; omega
    clear hk4 hf4 hk3
    obtain ⟨e0, e1, e2, e3, e4, e5⟩ := blk6 HK4.out.blk
    obtain ⟨Al', cl', e', _, hC'⟩ := Kd.R_reads HK4.out.left
    cases e'
    change Kd.C k36 _ (some ad) s.left.length s.left at hC'
    obtain ⟨ad', hA', p0, p1, p2, p3⟩ := mv_cells hC' i hi
    cases hA'
    rw [HM.out] at p0 p1 p2 p3
    simp only at p0 p1 p2 p3
    have HFR := Lib.hid (free_any base B _ _ _ _ _ r t ⟨b0, b1⟩ _ HK4.out (by exact Nat.le_trans (Nat.le_trans hbw HF3.out.size) HF4.out.size) hl (by simp only [List.length_set]; exact hd) HR.out (by simp only [List.length_set]; exact HS.out))
    clear hC' e1 e2 e3 e4 e5 p0 p1
    go_wp2_with fail
    refine HFR.out.mono ?_
    rintro e w5 ⟨rfl, ⟨vr5, hk5⟩, hf5⟩
    have HK5 := Lib.hid hk5
    have HF5 := Lib.hid hf5
    clear hk5 hf5
    go_wp2_with fail
    go_end0
    exact ⟨rfl, ⟨_, _, HK5.out⟩, (((Fr.drewN (Fr.refl w (fun k => base ≤ k)) 1).then_ HF3.out (fun k hk => .inl hk)).then_ HF4.out (fun k hk => .inl hk)).then_ HF5.out (fun k hk => .inl hk)⟩
end Go.Proofs.Ytameoapnhmoleaa
