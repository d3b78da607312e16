-- Printed by the kit's print.py (turned by patchprint.py, made shorter by squeeze.py, mine). Not trusted: Lean checks it.
import Derived.Test.YtameoapnhmoleaaPA
import Derived.Test.YtameoapnhmoleaaPP3
namespace Go.Proofs.Ytameoapnhmoleaa.PP
open Go.RowKit Go.Proofs.YtameoapnhmoleaaW.PrintWords Go.Proofs.YtameoapnhmoleaaW.PrintLast Go.Proofs.YtameoapnhmoleaaW.PrintMore
attribute [local go_sem] max2_int min2_int max_two min_two max_three min_three max_four min_four   -- for this text's walks alone
set_option linter.unusedVariables false
set_option linter.unusedSimpArgs false
/-! ### quernlaw13_stays: function 11 -/
def quernlaw13_stays.l0 : Nat → List (S36) → Bool → Int → Int → Int → Int → Int → Option (Bool × (List (S36)))
 | 0, _, _, _, _, _, _, _ => none
 | k + 1, x0, x6, x7, x251000, x251001, x251002, x251003 => if x7 < (x0.length : Int) then (if 0 ≤ x7 then (quernlaw13_stays.l0 k (x0.set (x7 : Int).toNat (⟨(⟨x251000, x251001⟩ : S24), (⟨x251002, x251003⟩ : S24)⟩ : S36)) x6 (wrap64 (x7 + 1)) x251000 x251001 x251002 x251003) else (none)) else (some (x6, x0))
def quernlaw13_stays.f (k : Nat) (l0 : List (S36)) (l1 : List (S36)) : Option (Bool × (List (S36))) := if ([] : List (S36)).length + l1.length < 4398046511104 then ((some (([] : List (S36)) ++ l1 : List (S36))).bind fun y251 => ((some (([(⟨(⟨(-71), 0⟩ : S24), (⟨0, 0⟩ : S24)⟩ : S36), (⟨(⟨(-71), 0⟩ : S24), (⟨0, 0⟩ : S24)⟩ : S36)] : List (S36)) : List (S36))).bind fun y254 => (if y251.length + y254.length < 4398046511104 then ((quernlaw13_sameMoves.f k l0 (y251 ++ y254)).bind fun t260 => (quernlaw13_stays.l0 k l0 t260 0 (-71) 0 0 0)) else (none)))) else (none)
theorem quernlaw13_stays.mono_l : ∀ k, (∀ y0 y1 y2 y3 y4 y5 y6, LeO (quernlaw13_stays.l0 k y0 y1 y2 y3 y4 y5 y6) (quernlaw13_stays.l0 (k + 1) y0 y1 y2 y3 y4 y5 y6))
 | 0 => fun _ _ _ _ _ _ _ r h => by simp [quernlaw13_stays.l0] at h
 | k + 1 => by
  have ih0 := quernlaw13_stays.mono_l k
  ·intro y0 y1 y2 y3 y4 y5 y6
   unfold quernlaw13_stays.l0
   repeat' first
   | (with_reducible exact ih0 _ _ _ _ _ _ _)
   | (with_reducible exact quernlaw13_sameMoves.mono _ _ _)
   | (with_reducible exact LeO.refl _)
   | (with_reducible exact LeO.none _)
   | (with_reducible refine LeO.ite ?_ ?_)
   | (with_reducible refine LeO.bind ?_ (fun _ => ?_))
   | exact ih0 _ _ _ _ _ _ _
   | exact quernlaw13_sameMoves.mono _ _ _
   | exact LeO.none _
   | refine LeO.ite ?_ ?_
   | refine LeO.bind ?_ (fun _ => ?_)
theorem quernlaw13_stays.mono : ∀ a0 a1 k, LeO (quernlaw13_stays.f k a0 a1) (quernlaw13_stays.f (k + 1) a0 a1) := by
 intro a0 a1 k
 have ih0 := quernlaw13_stays.mono_l k
 unfold quernlaw13_stays.f
 repeat' first
   | (with_reducible exact ih0 _ _ _ _ _ _ _)
   | (with_reducible exact quernlaw13_sameMoves.mono _ _ _)
   | (with_reducible exact LeO.refl _)
   | (with_reducible exact LeO.none _)
   | (with_reducible refine LeO.ite ?_ ?_)
   | (with_reducible refine LeO.bind ?_ (fun _ => ?_))
   | exact ih0 _ _ _ _ _ _ _
   | exact quernlaw13_sameMoves.mono _ _ _
   | exact LeO.none _
   | refine LeO.ite ?_ ?_
   | refine LeO.bind ?_ (fun _ => ?_)
def quernlaw13_stays.T2 : Bool × List (List Nat × List Nat) := (true, [([], []), ([], []), ([1], [1]), ([], []), ([], []), ([3, 4], [3, 4]), ([2, 5, 2], [2, 5]), ([0, 6, 6], [0, 6]), ([7, 7, 0, 1, 2, 3, 4, 5, 6, 7], [7])])
def quernlaw13_stays.B2 : List Nat := [0, 0, 2, 0, 0, 24, 62, 127, 255]
theorem quernlaw13_stays.tab2 : rtab .any (opsOf Try.f11 2) = quernlaw13_stays.T2 := by kernel_rfl
theorem quernlaw13_stays.bits2 : waitsOk quernlaw13_stays.T2.2 quernlaw13_stays.B2 = true := by kernel_rfl
set_option maxHeartbeats 8000000 in
set_option maxRecDepth 100000 in
theorem quernlaw13_stays.calls (k : Nat) (P0_ : Nat → Prop) (u9000_ : Value) (l0 : List (S36)) (A1 : Option Addr) (c1 : Nat) (l1 : List (S36)) (r1 : Bool) (r2 : List (S36)) (w0 w : World) (hB : Below w0.heap.size w0 w) (ho0 : Kd.R k36 36 w w0.heap.size P0_ u9000_ l0) (hr1 : ∀ W_, Kept w W_ (fun k_ => P0_ k_) → Kd.C k36 W_ A1 l1.length l1) (hc1 : l1.length ≤ c1) (h : quernlaw13_stays.f k l0 l1 = some (r1, r2)) :
  Calls Try.prog 11 #[u9000_, .slice A1 l1.length c1] w fun e w' => e = .returned (.bool r1) ∧ Kd.R k36 36 w' w0.heap.size (fun k_ => (P0_ k_ ∨ w.heap.size ≤ k_)) u9000_ r2 ∧ Below w0.heap.size w0 w' ∧ Kept w w' (fun k_ => P0_ k_) := by
 have hu24 := Try.underlying24
 have hu36 := Try.underlying36
 have HO0 := Aside0.mk (show Kd.R k36 36 w w0.heap.size (fun k_ => (P0_ k_ ∨ w.heap.size ≤ k_)) u9000_ l0 from Kd.R_mono ho0 (fun k_ hk => (.inl hk)))
 have HR1 := Aside0.mk hr1
 have HC1 := Aside0.mk hc1
 clear hr1 hc1
 have HK := Aside0.mk (Kept.refl w (fun k_ => P0_ k_))
 have HW0 := Aside0.mk hB.size
 have HB := Aside0.mk hB
 clear hB
 have H : (if ([] : List (S36)).length + l1.length < 4398046511104 then ((some (([] : List (S36)) ++ l1 : List (S36))).bind fun y251 => ((some (([(⟨(⟨(-71), 0⟩ : S24), (⟨0, 0⟩ : S24)⟩ : S36), (⟨(⟨(-71), 0⟩ : S24), (⟨0, 0⟩ : S24)⟩ : S36)] : List (S36)) : List (S36))).bind fun y254 => (if y251.length + y254.length < 4398046511104 then ((quernlaw13_sameMoves.f k l0 (y251 ++ y254)).bind fun t260 => (quernlaw13_stays.l0 k l0 t260 0 (-71) 0 0 0)) else (none)))) else (none)) = some (r1, r2) := h
 clear h
 by_cases c3 : ([] : List (S36)).length + l1.length < 4398046511104
 ·rw [if_pos c3] at H
  have LMc3 := Aside0.mk c3
  clear c3
  obtain ⟨y251, hy251⟩ : ∃ y_ : List (S36), y_ = (([] : List (S36)) ++ l1) := ⟨_, rfl⟩
  replace H : ((some (([(⟨(⟨(-71), 0⟩ : S24), (⟨0, 0⟩ : S24)⟩ : S36), (⟨(⟨(-71), 0⟩ : S24), (⟨0, 0⟩ : S24)⟩ : S36)] : List (S36)) : List (S36))).bind fun y254 => (if y251.length + y254.length < 4398046511104 then ((quernlaw13_sameMoves.f k l0 (y251 ++ y254)).bind fun t260 => (quernlaw13_stays.l0 k l0 t260 0 (-71) 0 0 0)) else (none))) = some (r1, r2) := by first | (rw [hy251]; with_reducible exact H) | (have H2_ := (Option.bind_some _ _).symm.trans H; rw [hy251]; with_reducible exact H2_) | (have H2_ := (Option.bind_some _ _).symm.trans H; with_reducible exact H2_) | with_reducible exact H | (rw [hy251]; exact H) | exact H
  have Ny251 := Aside0.mk hy251
  clear hy251
  obtain ⟨y254, hy254⟩ : ∃ y_ : List (S36), y_ = (([(⟨(⟨(-71), 0⟩ : S24), (⟨0, 0⟩ : S24)⟩ : S36), (⟨(⟨(-71), 0⟩ : S24), (⟨0, 0⟩ : S24)⟩ : S36)] : List (S36))) := ⟨_, rfl⟩
  replace H : (if y251.length + y254.length < 4398046511104 then ((quernlaw13_sameMoves.f k l0 (y251 ++ y254)).bind fun t260 => (quernlaw13_stays.l0 k l0 t260 0 (-71) 0 0 0)) else (none)) = some (r1, r2) := by first | (rw [hy254]; with_reducible exact H) | (have H2_ := (Option.bind_some _ _).symm.trans H; rw [hy254]; with_reducible exact H2_) | (have H2_ := (Option.bind_some _ _).symm.trans H; with_reducible exact H2_) | with_reducible exact H | (rw [hy254]; exact H) | exact H
  have Ny254 := Aside0.mk hy254
  clear hy254
  by_cases c4 : y251.length + y254.length < 4398046511104
  ·rw [if_pos c4] at H
   have LMc4 := Aside0.mk c4
   clear c4
   obtain ⟨y257, hy257⟩ : ∃ y_ : List (S36), y_ = (y251 ++ y254) := ⟨_, rfl⟩
   replace H : ((quernlaw13_sameMoves.f k l0 y257).bind fun t260 => (quernlaw13_stays.l0 k l0 t260 0 (-71) 0 0 0)) = some (r1, r2) := by first | (rw [hy257]; with_reducible exact H) | (have H2_ := (Option.bind_some _ _).symm.trans H; rw [hy257]; with_reducible exact H2_) | (have H2_ := (Option.bind_some _ _).symm.trans H; with_reducible exact H2_) | with_reducible exact H | (rw [hy257]; exact H) | exact H
   have Ny257 := Aside0.mk hy257
   clear hy257
   replace H := Option.bind_eq_some_iff.mp H
   obtain ⟨t260, A50, H⟩ := H
   replace H : (quernlaw13_stays.l0 k l0 t260 0 (-71) 0 0 0) = some (r1, r2) := H
   have A5 := Aside0.mk A50
   clear A50
   have H' := Aside0.mk H
   clear H
   go_enter Try.func11, Try.ntmps11
   try go_wp2_with (first | ((with_reducible refine gate_dst (N := 5) rfl ?_); refine box_event ?hg (N := 5) ?hd (cs := #[.int .i64 0, .int .i64 0, .int .i64 0, .int .i64 0]) (t := 36) ?hr ?_; (case hd => rfl); (case hg => rfl); (case hr => first | (go_simp; done) | (go_simp; rfl)); intro gb250 hg w6 hbox hb; have n0_ := Aside0.mk (Kd.R_below (Kd.R_elderB (by (with_reducible repeat (first | apply Kd.R_alloc | apply Kd.R_drewN | apply Kd.R_drew)); exact HO0.out) gb250 (Nat.le_of_eq hg.symm)) hb); have n1_ := Aside0.mk (Kept.below (S := (fun k_ => P0_ k_)) (by repeat (first | (with_reducible first | exact HK.out | apply Kept.alloc | apply Kept.drewN | apply Kept.drew) | exact HK.out)) hb); have n2_ := Aside0.mk (below_step (by repeat (first | (with_reducible first | exact HB.out | apply below_alloc | apply pw_below_drewN | apply below_drew1) | exact HB.out)) hb); have n3_ := Aside0.mk (hbox); have n4_ := Aside0.mk ((by rw [hg]; exact (by first | exact HK.out.1 | exact (show Kept w _ (fun k_ => P0_ k_) from by repeat (first | (with_reducible first | exact HK.out | apply Kept.alloc | apply Kept.drewN | apply Kept.drew) | exact HK.out)).1) : w.heap.size ≤ gb250)); have n5_ := Aside0.mk ((by rw [hg]; exact (below_size (by repeat (first | (with_reducible first | exact HB.out | apply below_alloc | apply pw_below_drewN | apply below_drew1) | exact HB.out))) : w0.heap.size ≤ gb250)); clear HO0; clear HK; clear HB; have HO0 := n0_; have HK := n1_; have HB := n2_; have BK250 := n3_; have GW250 := n4_; have GE250 := n5_; clear n0_ n1_ n2_ n3_ n4_ n5_; clear hb hbox hg; have hcz7_0 : w6.cell? ⟨gb250, 0, none⟩ = some (.int .i64 0) := (blk_cell BK250.out 0).trans rfl; have hcz7_1 : w6.cell? ⟨gb250, 1, none⟩ = some (.int .i64 0) := (blk_cell BK250.out 1).trans rfl; have hcz7_2 : w6.cell? ⟨gb250, 2, none⟩ = some (.int .i64 0) := (blk_cell BK250.out 2).trans rfl; have hcz7_3 : w6.cell? ⟨gb250, 3, none⟩ = some (.int .i64 0) := (blk_cell BK250.out 3).trans rfl; have hfz7_0 := blk_frozen BK250.out 0; have hfz7_1 := blk_frozen BK250.out 1; have hfz7_2 := blk_frozen BK250.out 2; have hfz7_3 := blk_frozen BK250.out 3; obtain ⟨Ao8, co8, eo8⟩ := Kd.R_slice HO0.out; subst eo8))
   have n0_ : Aside0 (Kd.R k36 36 ((((w6.setCell ⟨gb250, 0, none⟩ (.int .i64 (-71))).setCell ⟨gb250, 1, none⟩ (.int .i64 0)).setCell ⟨gb250, 2, none⟩ (.int .i64 0)).setCell ⟨gb250, 3, none⟩ (.int .i64 0)) w0.heap.size (fun k_ => (P0_ k_ ∨ w.heap.size ≤ k_) ∧ k_ ≠ gb250) (.slice Ao8 l0.length co8) l0) := ⟨by (with_reducible repeat (first | apply Kd.R_alloc | apply Kd.R_drewN | apply Kd.R_drew)); exact Kd.R_mono (Kd.R_far (p := ⟨gb250, 3, none⟩) (Kd.R_far (p := ⟨gb250, 2, none⟩) (Kd.R_far (p := ⟨gb250, 1, none⟩) (Kd.R_far (p := ⟨gb250, 0, none⟩) (Kd.R_mono HO0.out (fun k_ hk => (⟨hk, hk.2⟩ : _ ∧ k_ ≠ gb250))) (fun _ hk => hk.2) (.int .i64 (-71))) (fun _ hk => hk.2) (.int .i64 0)) (fun _ hk => hk.2) (.int .i64 0)) (fun _ hk => hk.2) (.int .i64 0)) (fun _ hk => ⟨hk.1.1, hk.1.2⟩)⟩
   have n1_ : Aside0 (((((w6.setCell ⟨gb250, 0, none⟩ (.int .i64 (-71))).setCell ⟨gb250, 1, none⟩ (.int .i64 0)).setCell ⟨gb250, 2, none⟩ (.int .i64 0)).setCell ⟨gb250, 3, none⟩ (.int .i64 0)).heap[gb250]? = some (.cells #[.int .i64 (-71), .int .i64 0, .int .i64 0, .int .i64 0] 36 (0, 0))) := ⟨by (with_reducible repeat (first | refine blk_drewN ?_ _ | refine blk_drew ?_ | refine blk_alloc ?_ _)); refine blk_put (cs := #[.int .i64 (-71), .int .i64 0, .int .i64 0, .int .i64 0]) ?_ 3 _ rfl; (with_reducible repeat (first | refine blk_drewN ?_ _ | refine blk_drew ?_ | refine blk_alloc ?_ _)); refine blk_put (cs := #[.int .i64 (-71), .int .i64 0, .int .i64 0, .int .i64 0]) ?_ 2 _ rfl; (with_reducible repeat (first | refine blk_drewN ?_ _ | refine blk_drew ?_ | refine blk_alloc ?_ _)); refine blk_put (cs := #[.int .i64 (-71), .int .i64 0, .int .i64 0, .int .i64 0]) ?_ 1 _ rfl; (with_reducible repeat (first | refine blk_drewN ?_ _ | refine blk_drew ?_ | refine blk_alloc ?_ _)); refine blk_put (cs := #[.int .i64 0, .int .i64 0, .int .i64 0, .int .i64 0]) ?_ 0 _ rfl; (with_reducible repeat (first | refine blk_drewN ?_ _ | refine blk_drew ?_ | refine blk_alloc ?_ _)); exact BK250.out⟩
   have n2_ : Aside0 (Kept w ((((w6.setCell ⟨gb250, 0, none⟩ (.int .i64 (-71))).setCell ⟨gb250, 1, none⟩ (.int .i64 0)).setCell ⟨gb250, 2, none⟩ (.int .i64 0)).setCell ⟨gb250, 3, none⟩ (.int .i64 0)) (fun k_ => P0_ k_)) := ⟨by repeat (first | (with_reducible first | exact HK.out | apply Kept.alloc | apply Kept.drewN | apply Kept.drew | refine Kept.setCell ?_ (.inr GW250.out) _) | exact HK.out)⟩
   have n3_ : Aside0 (Below w0.heap.size w0 ((((w6.setCell ⟨gb250, 0, none⟩ (.int .i64 (-71))).setCell ⟨gb250, 1, none⟩ (.int .i64 0)).setCell ⟨gb250, 2, none⟩ (.int .i64 0)).setCell ⟨gb250, 3, none⟩ (.int .i64 0))) := ⟨by repeat (first | (with_reducible first | exact HB.out | apply below_alloc | apply pw_below_drewN | apply below_drew1 | refine below_set ?_ GE250.out) | exact HB.out)⟩
   (try clear HO0)
   (try clear BK250)
   (try clear HK)
   (try clear HB)
   generalize ((((w6.setCell ⟨gb250, 0, none⟩ (.int .i64 (-71))).setCell ⟨gb250, 1, none⟩ (.int .i64 0)).setCell ⟨gb250, 2, none⟩ (.int .i64 0)).setCell ⟨gb250, 3, none⟩ (.int .i64 0)) = w9 at n0_ n1_ n2_ n3_ ⊢
   have HO0 := n0_
   have BK250 := n1_
   have HK := n2_
   have HB := n3_
   clear n0_ n1_ n2_ n3_
   have n0_ := Aside0.mk (Kd.R_drew HO0.out)
   have n1_ := Aside0.mk (blk_drew BK250.out)
   have n2_ := Aside0.mk (Kept.drew HK.out)
   have n3_ := Aside0.mk (below_drew1 HB.out)
   clear HO0
   clear BK250
   clear HK
   clear HB
   have HO0 := n0_
   have BK250 := n1_
   have HK := n2_
   have HB := n3_
   clear n0_ n1_ n2_ n3_
   refine start_ (n := 9) (S := fun w' => w'.cell? ⟨gb250, 0, none⟩ = some (.int .i64 (-71)) ∧ w'.cell? ⟨gb250, 1, none⟩ = some (.int .i64 0) ∧ w'.cell? ⟨gb250, 2, none⟩ = some (.int .i64 0) ∧ w'.cell? ⟨gb250, 3, none⟩ = some (.int .i64 0)) (ds := []) (bl 0 9) (by kernel_rfl) rfl rfl ⟨(blk_cell BK250.out 0).trans rfl, (blk_cell BK250.out 1).trans rfl, (blk_cell BK250.out 2).trans rfl, (blk_cell BK250.out 3).trans rfl⟩ (fun hHeld => ?_); refine with_tabW quernlaw13_stays.tab2 quernlaw13_stays.bits2 (fun HT_ HW_ => ?_)
   generalize w9.drew = w10 at HO0 BK250 HK HB hHeld ⊢
   refine pure_ (i := 0) (N := some 10) (v := ?_) (a' := ?_) (bl 1 9) rfl rfl (any_of HT_.out (by kernel_rfl)) (fun _ _ _ h => h) (Or.inl ⟨by rfl, ?_⟩) ?_ ?_
   rotate_left
   ·intro w'
    go_simp
    with_reducible rfl
   rotate_left
   ·simp only [Act.put, List.setIfInBounds_toArray, List.set_cons_zero, List.set_cons_succ, i64_w, i32_w]
    rfl
   refine pure_ (i := 1) (N := some 11) (v := ?_) (a' := ?_) (bl 2 9) rfl rfl (any_of HT_.out (by kernel_rfl)) (fun _ _ _ h => h) (Or.inl ⟨by rfl, ?_⟩) ?_ ?_
   rotate_left
   ·intro w'
    go_simp
    with_reducible rfl
   rotate_left
   ·simp only [Act.put, List.setIfInBounds_toArray, List.set_cons_zero, List.set_cons_succ, i64_w, i32_w]
    rfl
   refine take_ (i := 3) (N := some 13) (v := ?_) (a' := ?_) #[true, true, false, true, false, false, false, false, false] rfl rfl (take_ofW HT_.out HW_.out (by kernel_rfl)) (fun _ _ _ h => h) (Or.inl ⟨by rfl, ?_⟩) hHeld ?_ ?_
   rotate_left
   ·rintro w' ⟨s0, s1, s2, s3⟩
    go_simp
    with_reducible rfl
   rotate_left
   ·simp only [Act.put, List.setIfInBounds_toArray, List.set_cons_zero, List.set_cons_succ, i64_w, i32_w]
    rfl
   refine take_ (i := 4) (N := some 14) (v := ?_) (a' := ?_) #[true, true, false, true, true, false, false, false, false] rfl rfl (take_ofW HT_.out HW_.out (by kernel_rfl)) (fun _ _ _ h => h) (Or.inl ⟨by rfl, ?_⟩) hHeld ?_ ?_
   rotate_left
   ·rintro w' ⟨s0, s1, s2, s3⟩
    go_simp
    with_reducible rfl
   rotate_left
   ·simp only [Act.put, List.setIfInBounds_toArray, List.set_cons_zero, List.set_cons_succ, i64_w, i32_w]
    rfl
   refine join_ (σ := Value × Value) 3 (bl 6 9) (fun s_ => [(12, s_.1), (15, s_.2)]) (fun s_ w' => (w'.cell? ⟨gb250, 0, none⟩ = some (.int .i64 (-71)) ∧ w'.cell? ⟨gb250, 1, none⟩ = some (.int .i64 0) ∧ w'.cell? ⟨gb250, 2, none⟩ = some (.int .i64 0) ∧ w'.cell? ⟨gb250, 3, none⟩ = some (.int .i64 0)) ∧ (Kd.R k36 36 w' w0.heap.size (fun k_ => (P0_ k_ ∨ w.heap.size ≤ k_) ∧ some k_ ≠ (s_.1 : Value).ownBlock ∧ some k_ ≠ (s_.2 : Value).ownBlock ∧ k_ ≠ gb250) (.slice Ao8 l0.length co8) l0) ∧ (Kd.R k36 36 w' w0.heap.size (fun k_ => (P0_ k_ ∨ w.heap.size ≤ k_) ∧ some k_ ≠ (.slice Ao8 l0.length co8 : Value).ownBlock ∧ some k_ ≠ (s_.2 : Value).ownBlock ∧ k_ ≠ gb250) s_.1 y251) ∧ (Kd.R k36 36 w' w0.heap.size (fun k_ => (P0_ k_ ∨ w.heap.size ≤ k_) ∧ some k_ ≠ (.slice Ao8 l0.length co8 : Value).ownBlock ∧ some k_ ≠ (s_.1 : Value).ownBlock ∧ k_ ≠ gb250) s_.2 y254) ∧ (w'.heap[gb250]? = some (.cells #[.int .i64 (-71), .int .i64 0, .int .i64 0, .int .i64 0] 36 (0, 0))) ∧ (Kept w w' (fun k_ => P0_ k_)) ∧ (Below w0.heap.size w0 w')) ?_ ?_
   rotate_left
   ·intro hCont
    refine two_ (i := 2) (j := 5) (Ni := some 12) (Nj := some 15) (bl 5 9) #[true, true, false, true, true, true, false, false, false] rfl rfl rfl rfl (two_of HT_.out (by kernel_rfl)) (by decide) (by decide) (fun K hK => ?_) (fun K hK => ?_)
    ·skip
     refine Kd.R_append_rows_step k36 (w0 := w0) w0.heap.size (by rfl) (.const (.slice none 0 0)) (.tmp 11) 22 36 (.agg #[(.int .i64 0), (.int .i64 0), (.int .i64 0), (.int .i64 0)]) 32 rfl Try.underlying22 info36 rfl (by decide) (by omega) (.slice none 0 0) ([] : List (S36)) l1 _ _ _ (fun k_ => (P0_ k_ ∨ w.heap.size ≤ k_) ∧ some k_ ≠ (.slice Ao8 l0.length co8 : Value).ownBlock ∧ k_ ≠ gb250) (fun _ => False) rfl rfl ?aO ?aR (fun _ _ h => h) (fun _ h => h.elim) ?aF ?aB ?aS ?aL ?_
     (case aR => exact Kd.C_kept_now HR1.out (by repeat (first | (with_reducible first | exact HK.out | apply Kept.alloc | apply Kept.drewN | apply Kept.drew | refine Kept.setCell ?_ (.inr GW250.out) _) | exact HK.out)))
     (case aB => exact (by repeat (first | (with_reducible first | exact HB.out | apply below_alloc | apply pw_below_drewN | apply below_drew1 | refine below_set ?_ GE250.out) | exact HB.out)))
     (case aF => exact (fun k_ hk => ⟨(.inr (Nat.le_trans (by first | exact HK.out.1 | exact (show Kept w _ (fun k_ => P0_ k_) from by repeat (first | (with_reducible first | exact HK.out | apply Kept.alloc | apply Kept.drewN | apply Kept.drew | refine Kept.setCell ?_ (.inr GW250.out) _) | exact HK.out)).1) hk)), Kd.fresh' (Kd.R_lt (by (with_reducible repeat (first | apply Kd.R_alloc | apply Kd.R_drewN | apply Kd.R_drew)); exact HO0.out)) k_ hk, Kd.freshB (g := gb250) (o := .cells #[.int .i64 (-71), .int .i64 0, .int .i64 0, .int .i64 0] 36 (0, 0)) (by (with_reducible repeat (first | refine blk_drewN ?_ _ | refine blk_drew ?_ | refine blk_alloc ?_ _)); exact BK250.out) k_ hk⟩))
     (case aO => exact ((Kd.R_nil _ _ _ _ (fun k_ => (P0_ k_ ∨ w.heap.size ≤ k_) ∧ some k_ ≠ (.slice Ao8 l0.length co8 : Value).ownBlock ∧ k_ ≠ gb250))))
     (case aS => exact (below_size (by repeat (first | (with_reducible first | exact HB.out | apply below_alloc | apply pw_below_drewN | apply below_drew1 | refine below_set ?_ GE250.out) | exact HB.out))))
     (case aL => have := LMc3.out; omega)
     intro v252 w11 ho hb hg hat
     rw [← Ny251.out] at ho
     have n0_ := Aside0.mk (Kd.R_after (Kd.R_apart_nil (by (with_reducible repeat (first | apply Kd.R_alloc | apply Kd.R_drewN | apply Kd.R_drew)); exact HO0.out)) hg hat)
     have n1_ := Aside0.mk (blk_grown (g := gb250) (o := .cells #[.int .i64 (-71), .int .i64 0, .int .i64 0, .int .i64 0] 36 (0, 0)) (by (with_reducible repeat (first | refine blk_drewN ?_ _ | refine blk_drew ?_ | refine blk_alloc ?_ _)); exact BK250.out) hg (by simp [Value.ownBlock]))
     have n2_ := Aside0.mk (hb)
     have n3_ := Aside0.mk (Kept.of_grown (S := (fun k_ => P0_ k_)) hg (by repeat (first | (with_reducible first | exact HK.out | apply Kept.alloc | apply Kept.drewN | apply Kept.drew | refine Kept.setCell ?_ (.inr GW250.out) _) | exact HK.out)) (fun k_ e_ => by simp [Value.ownBlock] at e_))
     have n4_ := Aside0.mk (ho)
     clear HO0
     clear BK250
     clear HB
     clear HK
     have HO0 := n0_
     have BK250 := n1_
     have HB := n2_
     have HK := n3_
     have HO253 := n4_
     clear n0_ n1_ n2_ n3_ n4_
     clear ho hb hg hat
     refine hK.out _ _ ⟨(blk_cell BK250.out 0).trans rfl, (blk_cell BK250.out 1).trans rfl, (blk_cell BK250.out 2).trans rfl, (blk_cell BK250.out 3).trans rfl⟩ (fun hHeld => ?_)
     clear hK K
     refine norm_ (a' := ?_) ?_ ?_
     rotate_left
     ·show Act.put _ (some 12) _ = _
      simp only [Act.put, List.setIfInBounds_toArray, List.set_cons_zero, List.set_cons_succ, i64_w, i32_w]
      rfl
     refine one_ (i := 5) (N := some 15) (bl 6 9) rfl rfl (one_of HT_.out (by kernel_rfl)) (by decide) (fun K hK => ?_)
     refine Kd.R_lit_step k36 _ 36 ?hg (N := 15) ?hd (xs := ([(⟨(⟨(-71), 0⟩ : S24), (⟨0, 0⟩ : S24)⟩ : S36), (⟨(⟨(-71), 0⟩ : S24), (⟨0, 0⟩ : S24)⟩ : S36)] : List (S36))) (inner := [.int .i64 (-71), .int .i64 0, .int .i64 0, .int .i64 0, .int .i64 (-71), .int .i64 0, .int .i64 0, .int .i64 0]) (ok := fun _ => True) (okp := fun _ => True) ?hr ?hp (fun _ hk => hk) trivial (Below.refl _ _) (Nat.le_refl _) (by simp) ?_; (case hd => rfl); (case hg => rfl); (case hr => first | (go_simp; done) | (go_simp; rfl)); (case hp => exact (Reps.c4 (show Kd.M k36 _ _ _ (⟨(⟨(-71), 0⟩ : S24), (⟨0, 0⟩ : S24)⟩ : S36) [.int .i64 (-71), .int .i64 0, .int .i64 0, .int .i64 0] from (k36_mkM _ _ _ (⟨(⟨(-71), 0⟩ : S24), (⟨0, 0⟩ : S24)⟩ : S36) )) (Reps.c4 (show Kd.M k36 _ _ _ (⟨(⟨(-71), 0⟩ : S24), (⟨0, 0⟩ : S24)⟩ : S36) [.int .i64 (-71), .int .i64 0, .int .i64 0, .int .i64 0] from (k36_mkM _ _ _ (⟨(⟨(-71), 0⟩ : S24), (⟨0, 0⟩ : S24)⟩ : S36) )) (Reps.none _ _))))
     intro v255 w12 ho13 hb hg_ hnew_
     clear hg_ hnew_
     (first | rw [← Ny254.out] at ho13 | (simp only [Int.reduceToNat] at ho13; rw [← Ny254.out] at ho13))
     have n0_ := Aside0.mk (Kd.R_elder' (by (with_reducible repeat (first | apply Kd.R_alloc | apply Kd.R_drewN | apply Kd.R_drew)); exact HO0.out) (Kd.R_base ho13) hb)
     have n1_ := Aside0.mk (Kd.R_elder' (by (with_reducible repeat (first | apply Kd.R_alloc | apply Kd.R_drewN | apply Kd.R_drew)); exact HO253.out) (Kd.R_base ho13) hb)
     have n2_ := Aside0.mk (Kd.R_lower (Kd.R_newB (Kd.R_new' (Kd.R_new' (Kd.R_newM (M := fun k_ => (P0_ k_ ∨ w.heap.size ≤ k_)) ho13 (by first | exact HK.out.1 | exact (show Kept w _ (fun k_ => P0_ k_) from by repeat (first | (with_reducible first | exact HK.out | apply Kept.alloc | apply Kept.drewN | apply Kept.drew | refine Kept.setCell ?_ (.inr GW250.out) _) | exact HK.out)).1) (fun k_ h_ => .inr h_)) (Kd.R_lt (by (with_reducible repeat (first | apply Kd.R_alloc | apply Kd.R_drewN | apply Kd.R_drew)); exact HO0.out))) (Kd.R_lt (by (with_reducible repeat (first | apply Kd.R_alloc | apply Kd.R_drewN | apply Kd.R_drew)); exact HO253.out))) (g := gb250) (o := .cells #[.int .i64 (-71), .int .i64 0, .int .i64 0, .int .i64 0] 36 (0, 0)) (by (with_reducible repeat (first | refine blk_drewN ?_ _ | refine blk_drew ?_ | refine blk_alloc ?_ _)); exact BK250.out)) (below_size (by repeat (first | (with_reducible first | exact HB.out | apply below_alloc | apply pw_below_drewN | apply below_drew1 | refine below_set ?_ GE250.out) | exact HB.out))))
     have n3_ := Aside0.mk (blk_below (g := gb250) (o := .cells #[.int .i64 (-71), .int .i64 0, .int .i64 0, .int .i64 0] 36 (0, 0)) (by (with_reducible repeat (first | refine blk_drewN ?_ _ | refine blk_drew ?_ | refine blk_alloc ?_ _)); exact BK250.out) hb)
     have n4_ := Aside0.mk (Kept.below (S := (fun k_ => P0_ k_)) (by repeat (first | (with_reducible first | exact HK.out | apply Kept.alloc | apply Kept.drewN | apply Kept.drew | refine Kept.setCell ?_ (.inr GW250.out) _) | exact HK.out)) hb)
     have n5_ := Aside0.mk (below_step (by repeat (first | (with_reducible first | exact HB.out | apply below_alloc | apply pw_below_drewN | apply below_drew1 | refine below_set ?_ GE250.out) | exact HB.out)) hb)
     clear HO0
     clear HO253
     clear BK250
     clear HK
     clear HB
     have HO0 := n0_
     have HO253 := n1_
     have HO256 := n2_
     have BK250 := n3_
     have HK := n4_
     have HB := n5_
     clear n0_ n1_ n2_ n3_ n4_ n5_
     clear hb ho13
     refine hK.out _ _ ⟨(blk_cell BK250.out 0).trans rfl, (blk_cell BK250.out 1).trans rfl, (blk_cell BK250.out 2).trans rfl, (blk_cell BK250.out 3).trans rfl⟩ (fun hHeld => ?_)
     clear hK K
     refine norm_ (a' := ?_) ?_ ?_
     rotate_left
     ·show Act.put _ (some 15) _ = _
      simp only [Act.put, List.setIfInBounds_toArray, List.set_cons_zero, List.set_cons_succ, i64_w, i32_w]
      rfl
     exact norm_ (by simp only [putAll, Act.put, List.setIfInBounds_toArray, List.set_cons_zero, List.set_cons_succ]) (hCont (v252, v255) _ ⟨hHeld, (by (with_reducible repeat (first | apply Kd.R_alloc | apply Kd.R_drewN | apply Kd.R_drew)); exact Kd.R_mono HO0.out (fun _ hk => ⟨hk.1.1.1, ⟨hk.1.2, ⟨hk.2, hk.1.1.2⟩⟩⟩)), (by (with_reducible repeat (first | apply Kd.R_alloc | apply Kd.R_drewN | apply Kd.R_drew)); exact Kd.R_mono HO253.out (fun _ hk => ⟨hk.1.1, ⟨hk.1.2.1, ⟨hk.2, hk.1.2.2⟩⟩⟩)), (by (with_reducible repeat (first | apply Kd.R_alloc | apply Kd.R_drewN | apply Kd.R_drew)); exact Kd.R_mono HO256.out (fun _ hk => ⟨hk.1.1.1.1, ⟨hk.1.1.2, ⟨hk.1.2, hk.2⟩⟩⟩)), (by (with_reducible repeat (first | refine blk_drewN ?_ _ | refine blk_drew ?_ | refine blk_alloc ?_ _)); exact BK250.out), (by repeat (first | (with_reducible first | exact HK.out | apply Kept.alloc | apply Kept.drewN | apply Kept.drew | refine Kept.setCell ?_ (.inr GW250.out) _) | exact HK.out)), (by repeat (first | (with_reducible first | exact HB.out | apply below_alloc | apply pw_below_drewN | apply below_drew1 | refine below_set ?_ GE250.out) | exact HB.out))⟩)
    ·skip
     refine Kd.R_lit_step k36 _ 36 ?hg (N := 15) ?hd (xs := ([(⟨(⟨(-71), 0⟩ : S24), (⟨0, 0⟩ : S24)⟩ : S36), (⟨(⟨(-71), 0⟩ : S24), (⟨0, 0⟩ : S24)⟩ : S36)] : List (S36))) (inner := [.int .i64 (-71), .int .i64 0, .int .i64 0, .int .i64 0, .int .i64 (-71), .int .i64 0, .int .i64 0, .int .i64 0]) (ok := fun _ => True) (okp := fun _ => True) ?hr ?hp (fun _ hk => hk) trivial (Below.refl _ _) (Nat.le_refl _) (by simp) ?_; (case hd => rfl); (case hg => rfl); (case hr => first | (go_simp; done) | (go_simp; rfl)); (case hp => exact (Reps.c4 (show Kd.M k36 _ _ _ (⟨(⟨(-71), 0⟩ : S24), (⟨0, 0⟩ : S24)⟩ : S36) [.int .i64 (-71), .int .i64 0, .int .i64 0, .int .i64 0] from (k36_mkM _ _ _ (⟨(⟨(-71), 0⟩ : S24), (⟨0, 0⟩ : S24)⟩ : S36) )) (Reps.c4 (show Kd.M k36 _ _ _ (⟨(⟨(-71), 0⟩ : S24), (⟨0, 0⟩ : S24)⟩ : S36) [.int .i64 (-71), .int .i64 0, .int .i64 0, .int .i64 0] from (k36_mkM _ _ _ (⟨(⟨(-71), 0⟩ : S24), (⟨0, 0⟩ : S24)⟩ : S36) )) (Reps.none _ _))))
     intro v255 w11 ho12 hb hg_ hnew_
     clear hg_ hnew_
     (first | rw [← Ny254.out] at ho12 | (simp only [Int.reduceToNat] at ho12; rw [← Ny254.out] at ho12))
     have n0_ := Aside0.mk (Kd.R_elder' (by (with_reducible repeat (first | apply Kd.R_alloc | apply Kd.R_drewN | apply Kd.R_drew)); exact HO0.out) (Kd.R_base ho12) hb)
     have n1_ := Aside0.mk (Kd.R_lower (Kd.R_newB (Kd.R_new' (Kd.R_newM (M := fun k_ => (P0_ k_ ∨ w.heap.size ≤ k_)) ho12 (by first | exact HK.out.1 | exact (show Kept w _ (fun k_ => P0_ k_) from by repeat (first | (with_reducible first | exact HK.out | apply Kept.alloc | apply Kept.drewN | apply Kept.drew | refine Kept.setCell ?_ (.inr GW250.out) _) | exact HK.out)).1) (fun k_ h_ => .inr h_)) (Kd.R_lt (by (with_reducible repeat (first | apply Kd.R_alloc | apply Kd.R_drewN | apply Kd.R_drew)); exact HO0.out))) (g := gb250) (o := .cells #[.int .i64 (-71), .int .i64 0, .int .i64 0, .int .i64 0] 36 (0, 0)) (by (with_reducible repeat (first | refine blk_drewN ?_ _ | refine blk_drew ?_ | refine blk_alloc ?_ _)); exact BK250.out)) (below_size (by repeat (first | (with_reducible first | exact HB.out | apply below_alloc | apply pw_below_drewN | apply below_drew1 | refine below_set ?_ GE250.out) | exact HB.out))))
     have n2_ := Aside0.mk (blk_below (g := gb250) (o := .cells #[.int .i64 (-71), .int .i64 0, .int .i64 0, .int .i64 0] 36 (0, 0)) (by (with_reducible repeat (first | refine blk_drewN ?_ _ | refine blk_drew ?_ | refine blk_alloc ?_ _)); exact BK250.out) hb)
     have n3_ := Aside0.mk (Kept.below (S := (fun k_ => P0_ k_)) (by repeat (first | (with_reducible first | exact HK.out | apply Kept.alloc | apply Kept.drewN | apply Kept.drew | refine Kept.setCell ?_ (.inr GW250.out) _) | exact HK.out)) hb)
     have n4_ := Aside0.mk (below_step (by repeat (first | (with_reducible first | exact HB.out | apply below_alloc | apply pw_below_drewN | apply below_drew1 | refine below_set ?_ GE250.out) | exact HB.out)) hb)
     clear HO0
     clear BK250
     clear HK
     clear HB
     have HO0 := n0_
     have HO256 := n1_
     have BK250 := n2_
     have HK := n3_
     have HB := n4_
     clear n0_ n1_ n2_ n3_ n4_
     clear hb ho12
     refine hK.out _ _ ⟨(blk_cell BK250.out 0).trans rfl, (blk_cell BK250.out 1).trans rfl, (blk_cell BK250.out 2).trans rfl, (blk_cell BK250.out 3).trans rfl⟩ (fun hHeld => ?_)
     clear hK K
     refine norm_ (a' := ?_) ?_ ?_
     rotate_left
     ·show Act.put _ (some 15) _ = _
      simp only [Act.put, List.setIfInBounds_toArray, List.set_cons_zero, List.set_cons_succ, i64_w, i32_w]
      rfl
     refine one_ (i := 2) (N := some 12) (bl 6 9) rfl rfl (one_of HT_.out (by kernel_rfl)) (by decide) (fun K hK => ?_)
     refine Kd.R_append_rows_step k36 (w0 := w0) w0.heap.size (by rfl) (.const (.slice none 0 0)) (.tmp 11) 22 36 (.agg #[(.int .i64 0), (.int .i64 0), (.int .i64 0), (.int .i64 0)]) 32 rfl Try.underlying22 info36 rfl (by decide) (by omega) (.slice none 0 0) ([] : List (S36)) l1 _ _ _ (fun k_ => (P0_ k_ ∨ w.heap.size ≤ k_) ∧ some k_ ≠ (.slice Ao8 l0.length co8 : Value).ownBlock ∧ some k_ ≠ (v255 : Value).ownBlock ∧ k_ ≠ gb250) (fun _ => False) rfl rfl ?aO ?aR (fun _ _ h => h) (fun _ h => h.elim) ?aF ?aB ?aS ?aL ?_
     (case aR => exact Kd.C_kept_now HR1.out (by repeat (first | (with_reducible first | exact HK.out | apply Kept.alloc | apply Kept.drewN | apply Kept.drew | refine Kept.setCell ?_ (.inr GW250.out) _) | exact HK.out)))
     (case aB => exact (by repeat (first | (with_reducible first | exact HB.out | apply below_alloc | apply pw_below_drewN | apply below_drew1 | refine below_set ?_ GE250.out) | exact HB.out)))
     (case aF => exact (fun k_ hk => ⟨(.inr (Nat.le_trans (by first | exact HK.out.1 | exact (show Kept w _ (fun k_ => P0_ k_) from by repeat (first | (with_reducible first | exact HK.out | apply Kept.alloc | apply Kept.drewN | apply Kept.drew | refine Kept.setCell ?_ (.inr GW250.out) _) | exact HK.out)).1) hk)), Kd.fresh' (Kd.R_lt (by (with_reducible repeat (first | apply Kd.R_alloc | apply Kd.R_drewN | apply Kd.R_drew)); exact HO0.out)) k_ hk, Kd.fresh' (Kd.R_lt (by (with_reducible repeat (first | apply Kd.R_alloc | apply Kd.R_drewN | apply Kd.R_drew)); exact HO256.out)) k_ hk, Kd.freshB (g := gb250) (o := .cells #[.int .i64 (-71), .int .i64 0, .int .i64 0, .int .i64 0] 36 (0, 0)) (by (with_reducible repeat (first | refine blk_drewN ?_ _ | refine blk_drew ?_ | refine blk_alloc ?_ _)); exact BK250.out) k_ hk⟩))
     (case aO => exact ((Kd.R_nil _ _ _ _ (fun k_ => (P0_ k_ ∨ w.heap.size ≤ k_) ∧ some k_ ≠ (.slice Ao8 l0.length co8 : Value).ownBlock ∧ some k_ ≠ (v255 : Value).ownBlock ∧ k_ ≠ gb250))))
     (case aS => exact (below_size (by repeat (first | (with_reducible first | exact HB.out | apply below_alloc | apply pw_below_drewN | apply below_drew1 | refine below_set ?_ GE250.out) | exact HB.out))))
     (case aL => have := LMc3.out; omega)
     intro v252 w13 ho hb hg hat
     rw [← Ny251.out] at ho
     have n0_ := Aside0.mk (Kd.R_after (Kd.R_apart_nil (by (with_reducible repeat (first | apply Kd.R_alloc | apply Kd.R_drewN | apply Kd.R_drew)); exact HO0.out)) hg hat)
     have n1_ := Aside0.mk (blk_grown (g := gb250) (o := .cells #[.int .i64 (-71), .int .i64 0, .int .i64 0, .int .i64 0] 36 (0, 0)) (by (with_reducible repeat (first | refine blk_drewN ?_ _ | refine blk_drew ?_ | refine blk_alloc ?_ _)); exact BK250.out) hg (by simp [Value.ownBlock]))
     have n2_ := Aside0.mk (Kd.R_after (Kd.R_apart_nil (by (with_reducible repeat (first | apply Kd.R_alloc | apply Kd.R_drewN | apply Kd.R_drew)); exact HO256.out)) hg hat)
     have n3_ := Aside0.mk (hb)
     have n4_ := Aside0.mk (Kept.of_grown (S := (fun k_ => P0_ k_)) hg (by repeat (first | (with_reducible first | exact HK.out | apply Kept.alloc | apply Kept.drewN | apply Kept.drew | refine Kept.setCell ?_ (.inr GW250.out) _) | exact HK.out)) (fun k_ e_ => by simp [Value.ownBlock] at e_))
     have n5_ := Aside0.mk (ho)
     clear HO0
     clear BK250
     clear HO256
     clear HB
     clear HK
     have HO0 := n0_
     have BK250 := n1_
     have HO256 := n2_
     have HB := n3_
     have HK := n4_
     have HO253 := n5_
     clear n0_ n1_ n2_ n3_ n4_ n5_
     clear ho hb hg hat
     refine hK.out _ _ ⟨(blk_cell BK250.out 0).trans rfl, (blk_cell BK250.out 1).trans rfl, (blk_cell BK250.out 2).trans rfl, (blk_cell BK250.out 3).trans rfl⟩ (fun hHeld => ?_)
     clear hK K
     refine norm_ (a' := ?_) ?_ ?_
     rotate_left
     ·show Act.put _ (some 12) _ = _
      simp only [Act.put, List.setIfInBounds_toArray, List.set_cons_zero, List.set_cons_succ, i64_w, i32_w]
      rfl
     exact norm_ (by simp only [putAll, Act.put, List.setIfInBounds_toArray, List.set_cons_zero, List.set_cons_succ]) (hCont (v252, v255) _ ⟨hHeld, (by (with_reducible repeat (first | apply Kd.R_alloc | apply Kd.R_drewN | apply Kd.R_drew)); exact Kd.R_mono HO0.out (fun _ hk => ⟨hk.1.1.1, ⟨hk.2, ⟨hk.1.2, hk.1.1.2⟩⟩⟩)), (by (with_reducible repeat (first | apply Kd.R_alloc | apply Kd.R_drewN | apply Kd.R_drew)); exact HO253.out), (by (with_reducible repeat (first | apply Kd.R_alloc | apply Kd.R_drewN | apply Kd.R_drew)); exact Kd.R_mono HO256.out (fun _ hk => ⟨hk.1.1.1.1, ⟨hk.1.1.2, ⟨hk.2, hk.1.2⟩⟩⟩)), (by (with_reducible repeat (first | refine blk_drewN ?_ _ | refine blk_drew ?_ | refine blk_alloc ?_ _)); exact BK250.out), (by repeat (first | (with_reducible first | exact HK.out | apply Kept.alloc | apply Kept.drewN | apply Kept.drew | refine Kept.setCell ?_ (.inr GW250.out) _) | exact HK.out)), (by repeat (first | (with_reducible first | exact HB.out | apply below_alloc | apply pw_below_drewN | apply below_drew1 | refine below_set ?_ GE250.out) | exact HB.out))⟩)
   rintro ⟨v252, v255⟩ w14 ⟨hS_, h0_, h1_, h2_, h3_, h4_, h5_⟩
   have n0_ : Aside0 (Kd.R k36 36 w14 w0.heap.size (fun k_ => (P0_ k_ ∨ w.heap.size ≤ k_) ∧ some k_ ≠ (v252 : Value).ownBlock ∧ some k_ ≠ (v255 : Value).ownBlock ∧ k_ ≠ gb250) (.slice Ao8 l0.length co8) l0) := ⟨h0_⟩
   have n1_ : Aside0 (Kd.R k36 36 w14 w0.heap.size (fun k_ => (P0_ k_ ∨ w.heap.size ≤ k_) ∧ some k_ ≠ (.slice Ao8 l0.length co8 : Value).ownBlock ∧ some k_ ≠ (v255 : Value).ownBlock ∧ k_ ≠ gb250) v252 y251) := ⟨h1_⟩
   have n2_ : Aside0 (Kd.R k36 36 w14 w0.heap.size (fun k_ => (P0_ k_ ∨ w.heap.size ≤ k_) ∧ some k_ ≠ (.slice Ao8 l0.length co8 : Value).ownBlock ∧ some k_ ≠ (v252 : Value).ownBlock ∧ k_ ≠ gb250) v255 y254) := ⟨h2_⟩
   have n3_ : Aside0 (w14.heap[gb250]? = some (.cells #[.int .i64 (-71), .int .i64 0, .int .i64 0, .int .i64 0] 36 (0, 0))) := ⟨h3_⟩
   have n4_ : Aside0 (Kept w w14 (fun k_ => P0_ k_)) := ⟨h4_⟩
   have n5_ : Aside0 (Below w0.heap.size w0 w14) := ⟨h5_⟩
   clear HO0
   clear BK250
   clear HK
   clear HB
   clear h0_ h1_ h2_ h3_ h4_ h5_
   have HO0 := n0_
   have HO253 := n1_
   have HO256 := n2_
   have BK250 := n3_
   have HK := n4_
   have HB := n5_
   clear n0_ n1_ n2_ n3_ n4_ n5_
   have hHeld : w14.cell? ⟨gb250, 0, none⟩ = some (.int .i64 (-71)) ∧ w14.cell? ⟨gb250, 1, none⟩ = some (.int .i64 0) ∧ w14.cell? ⟨gb250, 2, none⟩ = some (.int .i64 0) ∧ w14.cell? ⟨gb250, 3, none⟩ = some (.int .i64 0) := hS_
   obtain ⟨Ao16, co16, eo16⟩ := Kd.R_slice HO256.out
   (first | subst eo16 | (injection eo16 with f1_ f2_ f3_; have f4_ := f1_.symm; have f5_ := f3_.symm; clear f1_ f2_ f3_; subst f4_; subst f5_))
   refine norm_ (a' := ?_) ?_ ?_
   rotate_left
   ·simp only [putAll, Act.put, List.setIfInBounds_toArray, List.set_cons_zero, List.set_cons_succ]
    rfl
   refine one_ (i := 6) (N := some 16) (bl 7 9) rfl rfl (one_of HT_.out (by kernel_rfl)) (by decide) (fun K hK => ?_)
   refine Kd.R_append_rows_step k36 (w0 := w0) w0.heap.size (by rfl) (.tmp 12) (.tmp 15) 22 36 (.agg #[(.int .i64 0), (.int .i64 0), (.int .i64 0), (.int .i64 0)]) 32 rfl Try.underlying22 info36 rfl (by decide) (by omega) v252 y251 y254 _ _ _ (fun k_ => (P0_ k_ ∨ w.heap.size ≤ k_) ∧ some k_ ≠ (.slice Ao8 l0.length co8 : Value).ownBlock ∧ some k_ ≠ (.slice Ao16 y254.length co16 : Value).ownBlock ∧ k_ ≠ gb250) (fun _ => False) rfl rfl ?aO ?aR (fun _ _ h => h) (fun _ h => h.elim) ?aF ?aB ?aS ?aL ?_
   (case aR => repeat (first | exact (Kd.R_reads' HO256.out).2.2 | (with_reducible refine Kd.C_alloc ?_ _) | (with_reducible refine Kd.C_drewN ?_ _) | (with_reducible refine Kd.C_drew ?_)))
   (case aB => exact (by repeat (first | (with_reducible first | exact HB.out | apply below_alloc | apply pw_below_drewN | apply below_drew1 | refine below_set ?_ GE250.out) | exact HB.out)))
   (case aF => exact (fun k_ hk => ⟨(.inr (Nat.le_trans (by first | exact HK.out.1 | exact (show Kept w _ (fun k_ => P0_ k_) from by repeat (first | (with_reducible first | exact HK.out | apply Kept.alloc | apply Kept.drewN | apply Kept.drew | refine Kept.setCell ?_ (.inr GW250.out) _) | exact HK.out)).1) hk)), Kd.fresh' (Kd.R_lt (by (with_reducible repeat (first | apply Kd.R_alloc | apply Kd.R_drewN | apply Kd.R_drew)); exact HO0.out)) k_ hk, Kd.fresh' (Kd.R_lt (by (with_reducible repeat (first | apply Kd.R_alloc | apply Kd.R_drewN | apply Kd.R_drew)); exact HO256.out)) k_ hk, Kd.freshB (g := gb250) (o := .cells #[.int .i64 (-71), .int .i64 0, .int .i64 0, .int .i64 0] 36 (0, 0)) (by (with_reducible repeat (first | refine blk_drewN ?_ _ | refine blk_drew ?_ | refine blk_alloc ?_ _)); exact BK250.out) k_ hk⟩))
   (case aO => exact (by (with_reducible repeat (first | apply Kd.R_alloc | apply Kd.R_drewN | apply Kd.R_drew)); exact HO253.out))
   (case aS => exact (below_size (by repeat (first | (with_reducible first | exact HB.out | apply below_alloc | apply pw_below_drewN | apply below_drew1 | refine below_set ?_ GE250.out) | exact HB.out))))
   (case aL => have := LMc4.out; omega)
   intro v258 w15 ho hb hg hat
   rw [← Ny257.out] at ho
   have n0_ := Aside0.mk (Kd.R_after (ok := (fun k_ => (P0_ k_ ∨ w.heap.size ≤ k_) ∧ some k_ ≠ (.slice Ao16 y254.length co16 : Value).ownBlock ∧ k_ ≠ gb250)) (by (with_reducible repeat (first | apply Kd.R_alloc | apply Kd.R_drewN | apply Kd.R_drew)); exact Kd.R_mono HO0.out (fun _ hk => ⟨⟨hk.1, ⟨hk.2.2.1, hk.2.2.2⟩⟩, hk.2.1⟩)) hg hat)
   have n1_ := Aside0.mk (blk_grown (g := gb250) (o := .cells #[.int .i64 (-71), .int .i64 0, .int .i64 0, .int .i64 0] 36 (0, 0)) (by (with_reducible repeat (first | refine blk_drewN ?_ _ | refine blk_drew ?_ | refine blk_alloc ?_ _)); exact BK250.out) hg (Kd.R_away HO253.out (fun _ hk => hk.2.2.2)))
   have n2_ := Aside0.mk (Kd.R_after (ok := (fun k_ => (P0_ k_ ∨ w.heap.size ≤ k_) ∧ some k_ ≠ (.slice Ao8 l0.length co8 : Value).ownBlock ∧ k_ ≠ gb250)) (by (with_reducible repeat (first | apply Kd.R_alloc | apply Kd.R_drewN | apply Kd.R_drew)); exact Kd.R_mono HO256.out (fun _ hk => ⟨⟨hk.1, ⟨hk.2.1, hk.2.2.2⟩⟩, hk.2.2.1⟩)) hg hat)
   have n3_ := Aside0.mk (hb)
   have n4_ := Aside0.mk (Kept.of_grown (S := (fun k_ => P0_ k_)) hg (by repeat (first | (with_reducible first | exact HK.out | apply Kept.alloc | apply Kept.drewN | apply Kept.drew | refine Kept.setCell ?_ (.inr GW250.out) _) | exact HK.out)) (fun k_ e_ => (HO253.out.1 k_ e_).1))
   have n5_ := Aside0.mk (ho)
   clear HO0
   clear BK250
   clear HO256
   clear HB
   clear HK
   clear HO253
   have HO0 := n0_
   have BK250 := n1_
   have HO256 := n2_
   have HB := n3_
   have HK := n4_
   have HO259 := n5_
   clear n0_ n1_ n2_ n3_ n4_ n5_
   clear ho hb hg hat
   obtain ⟨Ao17, co17, eo17⟩ := Kd.R_slice HO259.out
   (first | subst eo17 | (injection eo17 with f1_ f2_ f3_; have f4_ := f1_.symm; have f5_ := f3_.symm; clear f1_ f2_ f3_; subst f4_; subst f5_))
   refine hK.out _ _ ⟨(blk_cell BK250.out 0).trans rfl, (blk_cell BK250.out 1).trans rfl, (blk_cell BK250.out 2).trans rfl, (blk_cell BK250.out 3).trans rfl⟩ (fun hHeld => ?_)
   clear hK K
   refine norm_ (a' := ?_) ?_ ?_
   rotate_left
   ·show Act.put _ (some 16) _ = _
    simp only [Act.put, List.setIfInBounds_toArray, List.set_cons_zero, List.set_cons_succ, i64_w, i32_w]
    rfl
   refine one_ (i := 7) (N := some 17) (bl 8 9) rfl rfl (one_of HT_.out (by kernel_rfl)) (by decide) (fun K hK => ?_)
   refine goes_ Try.func13 (by kernel_rfl) rfl #[.slice Ao8 l0.length co8, .slice Ao17 y257.length co17] (by rfl) rfl rfl (by (try simp only [List.map_toArray, List.map_cons, List.map_nil]); first | done | rfl | (simp only [List.length_drop, List.length_take]; rfl)) ?_
   with_reducible refine (quernlaw13_sameMoves.calls k _ _ l0 _ _ y257 t260 _ ?side1 ?side2 ?side3 ?side4 A5.out).mono ?_
   (case side1 => repeat (first | exact (Kd.R_reads' HO0.out).2.2 | (with_reducible refine Kd.C_alloc ?_ _) | (with_reducible refine Kd.C_drewN ?_ _) | (with_reducible refine Kd.C_drew ?_)))
   (case side2 => exact (Kd.R_reads' HO0.out).2.1)
   (case side3 => repeat (first | exact (Kd.R_reads' HO259.out).2.2 | (with_reducible refine Kd.C_alloc ?_ _) | (with_reducible refine Kd.C_drewN ?_ _) | (with_reducible refine Kd.C_drew ?_)))
   (case side4 => exact (Kd.R_reads' HO259.out).2.1)
   rintro e w' ⟨rfl, ⟨nd, rfl⟩⟩
   refine ⟨_, rfl, ?_⟩
   refine hK.out _ _ ⟨(blk_cell BK250.out 0).trans rfl, (blk_cell BK250.out 1).trans rfl, (blk_cell BK250.out 2).trans rfl, (blk_cell BK250.out 3).trans rfl⟩ (fun hHeld => ?_)
   clear hK K
   refine norm_ (a' := ?_) ?_ ?_
   rotate_left
   ·show Act.put _ (some 17) _ = _
    simp only [Act.put, List.setIfInBounds_toArray, List.set_cons_zero, List.set_cons_succ, i64_w, i32_w]
    rfl
   refine pure_ (i := 8) (N := some 6) (v := ?_) (a' := ?_) (bl 9 9) rfl rfl (any_of HT_.out (by kernel_rfl)) (fun _ _ _ h => h) (Or.inl ⟨by rfl, ?_⟩) ?_ ?_
   rotate_left
   ·intro w'
    go_simp
    with_reducible rfl
   rotate_left
   ·simp only [Act.put, List.setIfInBounds_toArray, List.set_cons_zero, List.set_cons_succ, i64_w, i32_w]
    rfl
   refine done_ (done_of HT_.out (by kernel_rfl)) ?_
   try go_wp2
   go_loopg [7] k (fun kq v7 w' => ∃ (x0_1 : List (S36)) (x7_1 : Int) (x251000_1 : Int) (x251001_1 : Int) (x251002_1 : Int) (x251003_1 : Int), v7 = .int .i64 x7_1 ∧ Aside0 (quernlaw13_stays.l0 kq x0_1 t260 x7_1 x251000_1 x251001_1 x251002_1 x251003_1 = some (r1, r2)) ∧ Aside0 (kq ≤ k) ∧ Aside0 (Kd.R k36 36 w' w0.heap.size (fun k_ => (P0_ k_ ∨ w.heap.size ≤ k_) ∧ k_ ≠ gb250) (.slice Ao8 l0.length co8) x0_1) ∧ Aside0 (w'.heap[gb250]? = some (.cells #[.int .i64 x251000_1, .int .i64 x251001_1, .int .i64 x251002_1, .int .i64 x251003_1] 36 (0, 0))) ∧ Aside0 (Kept w w' (fun k_ => P0_ k_)) ∧ Aside0 (Below w0.heap.size w0 w'))
   case atStart => exact ⟨(l0), (0), ((-71)), (0), (0), (0), (by first | rfl | (simp; done) | (simp [*]; done)), H', ⟨Nat.le_refl _⟩, ⟨by (with_reducible repeat (first | apply Kd.R_alloc | apply Kd.R_drewN | apply Kd.R_drew)); exact Kd.R_mono HO0.out (fun _ hk => ⟨hk.1.1, hk.1.2.2⟩)⟩, ⟨by (with_reducible repeat (first | refine blk_drewN ?_ _ | refine blk_drew ?_ | refine blk_alloc ?_ _)); exact BK250.out⟩, ⟨by repeat (first | (with_reducible first | exact HK.out | apply Kept.alloc | apply Kept.drewN | apply Kept.drew | refine Kept.setCell ?_ (.inr GW250.out) _) | exact HK.out)⟩, ⟨by repeat (first | (with_reducible first | exact HB.out | apply below_alloc | apply pw_below_drewN | apply below_drew1 | refine below_set ?_ GE250.out) | exact HB.out)⟩⟩
   case round =>
    clear H'
    try clear c1
    try clear p2
    try clear c3
    try clear c4
    try clear c11
    try clear c13
    try clear hcz7_0
    try clear hcz7_1
    try clear hcz7_2
    try clear hcz7_3
    try clear hfz7_0
    try clear hfz7_1
    try clear hfz7_2
    try clear hfz7_3
    obtain ⟨x0_1, x7_1, x251000_1, x251001_1, x251002_1, x251003_1, rfl, HA, HK1, HO_0, BK250, HK, HB⟩ := hrel
    have hl0_1 := (Kd.R_reads' HO_0.out).1
    rw [hl0_1] at HO_0
    (try simp only [hl0_1])
    (try simp only [hl0_1] at BK250)
    cases gk with
    | zero => exact absurd HA.out (by simp [quernlaw13_stays.l0])
    | succ k1 =>
     have H := HA.out
     clear HA
     simp only [quernlaw13_stays.l0] at H
     by_cases c18 : x7_1 < (x0_1.length : Int)
     ·rw [if_pos c18] at H
      have c18b0 : decide (x7_1 < (x0_1.length : Int)) = true := decide_eq_true c18
      clear c18
      by_cases c19 : 0 ≤ x7_1
      ·rw [if_pos c19] at H
       have c19b0 : decide (0 ≤ x7_1) = true := decide_eq_true c19
       clear c19
       obtain ⟨y261, hy261⟩ : ∃ y_ : List (S36), y_ = (x0_1.set (x7_1 : Int).toNat (⟨(⟨x251000_1, x251001_1⟩ : S24), (⟨x251002_1, x251003_1⟩ : S24)⟩ : S36)) := ⟨_, rfl⟩
       replace H : (quernlaw13_stays.l0 k1 y261 t260 (wrap64 (x7_1 + 1)) x251000_1 x251001_1 x251002_1 x251003_1) = some (r1, r2) := by first | (rw [hy261]; with_reducible exact H) | (have H2_ := (Option.bind_some _ _).symm.trans H; rw [hy261]; with_reducible exact H2_) | (have H2_ := (Option.bind_some _ _).symm.trans H; with_reducible exact H2_) | with_reducible exact H | (rw [hy261]; exact H) | exact H
       have Ny261 := Aside0.mk hy261
       clear hy261
       have H' := Aside0.mk H
       clear H
       have hcz21_0 : wr.cell? ⟨gb250, 0, none⟩ = some (.int .i64 x251000_1) := (blk_cell BK250.out 0).trans rfl
       have hcz21_1 : wr.cell? ⟨gb250, 1, none⟩ = some (.int .i64 x251001_1) := (blk_cell BK250.out 1).trans rfl
       have hcz21_2 : wr.cell? ⟨gb250, 2, none⟩ = some (.int .i64 x251002_1) := (blk_cell BK250.out 2).trans rfl
       have hcz21_3 : wr.cell? ⟨gb250, 3, none⟩ = some (.int .i64 x251003_1) := (blk_cell BK250.out 3).trans rfl
       have hfz21_0 := blk_frozen BK250.out 0
       have hfz21_1 := blk_frozen BK250.out 1
       have hfz21_2 := blk_frozen BK250.out 2
       have hfz21_3 := blk_frozen BK250.out 3
       have p20 : 0 ≤ (x7_1 : Int) := of_decide_eq_true (by first | (with_reducible assumption) | assumption)
       have q20 : (x7_1 : Int) < ((x0_1.length : Int) : Int) := of_decide_eq_true (by first | (with_reducible assumption) | assumption)
       obtain ⟨go20, co20, eo20, gb20, gl20, cl20, HG20⟩ := Kd.R_form HO_0.out (by omega)
       (first | cases eo20 | (injection eo20 with ea_ en_ ec_; (first | subst ea_ | (injection ea_ with ea_; subst ea_)); subst ec_; clear en_))
       have GB20 := Aside0.mk gb20
       have GG20 := Aside0.mk HG20
       clear gb20 gl20 HG20
       have HMgo20 := Aside0.mk (show (P0_ go20 ∨ w.heap.size ≤ go20) from (HO_0.out.1 _ rfl).1)
       obtain ⟨ce20, hcl20, hM20, hcc20, hfr20⟩ := Kd.R_elem HO_0.out z36 (x7_1 : Int) p20 q20
       obtain rfl := k36_openM hM20
       have hx20_0 : wr.cell? ⟨go20, (x7_1 : Int).toNat * 4, none⟩ = some (.int .i64 ((rd_T36 x0_1 x7_1).f0.f0)) := hcc20 0 _ rfl
       have hx20_1 : wr.cell? ⟨go20, (x7_1 : Int).toNat * 4 + 1, none⟩ = some (.int .i64 ((rd_T36 x0_1 x7_1).f0.f1)) := hcc20 1 _ rfl
       have hx20_2 : wr.cell? ⟨go20, (x7_1 : Int).toNat * 4 + 2, none⟩ = some (.int .i64 ((rd_T36 x0_1 x7_1).f1.f0)) := hcc20 2 _ rfl
       have hx20_3 : wr.cell? ⟨go20, (x7_1 : Int).toNat * 4 + 3, none⟩ = some (.int .i64 ((rd_T36 x0_1 x7_1).f1.f1)) := hcc20 3 _ rfl
       have hf20_0 : wr.frozen? ⟨go20, (x7_1 : Int).toNat * 4, none⟩ = false := hfr20 0
       have hf20_1 : wr.frozen? ⟨go20, (x7_1 : Int).toNat * 4 + 1, none⟩ = false := hfr20 1
       have hf20_2 : wr.frozen? ⟨go20, (x7_1 : Int).toNat * 4 + 2, none⟩ = false := hfr20 2
       have hf20_3 : wr.frozen? ⟨go20, (x7_1 : Int).toNat * 4 + 3, none⟩ = false := hfr20 3
       clear hcl20 hcc20 hfr20 hM20
       replace p20 := eq_true p20
       replace q20 := eq_true q20
       have HX22 := Aside0.mk (show Kd.R k36 36 wr w0.heap.size (fun k_ => (P0_ k_ ∨ w.heap.size ≤ k_) ∧ k_ ≠ gb250) (.slice (some ⟨go20, 0, none⟩) x0_1.length co8) x0_1 from (by (with_reducible repeat (first | apply Kd.R_alloc | apply Kd.R_drewN | apply Kd.R_drew)); exact HO_0.out))
       obtain ⟨ce22, hcl22, hM22, hcc22, hfr22⟩ := Kd.R_elem HX22.out z36 (x7_1 : Int) (of_decide_eq_true (by first | (with_reducible assumption) | assumption)) (by have h_ : (x7_1 : Int) < ((x0_1.length : Int) : Int) := of_decide_eq_true (by first | (with_reducible assumption) | assumption); first | exact h_ | (have e_ := (Kd.R_reads' HO_0.out).1; omega) | simpa using h_)
       obtain rfl := k36_openM hM22
       have HP22 := Kd.R_seg HX22.out (x7_1 : Int) (of_decide_eq_true (by first | (with_reducible assumption) | assumption)) (by have h_ : (x7_1 : Int) < ((x0_1.length : Int) : Int) := of_decide_eq_true (by first | (with_reducible assumption) | assumption); first | exact h_ | (have e_ := (Kd.R_reads' HO_0.out).1; omega) | simpa using h_) (seg := [.int .i64 x251000_1, .int .i64 x251001_1, .int .i64 x251002_1, .int .i64 x251003_1]) (j := 0) hcl22 hcc22 (show 4 ≤ 4 from by decide) (x' := (⟨(⟨x251000_1, x251001_1⟩ : S24), (⟨x251002_1, x251003_1⟩ : S24)⟩ : S36)) (k36_mkM _ _ _ (⟨(⟨x251000_1, x251001_1⟩ : S24), (⟨x251002_1, x251003_1⟩ : S24)⟩ : S36) ) (fun _ hk => hk)
       have hx22_0 := hcc22 0 _ rfl
       (try simp only [show (k36).sz = 4 from rfl, Nat.mul_one, Nat.add_zero] at hx22_0)
       have hf22_0 := hfr22 0
       (try simp only [show (k36).sz = 4 from rfl, Nat.mul_one, Nat.add_zero] at hf22_0)
       have hx22_1 := hcc22 1 _ rfl
       (try simp only [show (k36).sz = 4 from rfl, Nat.mul_one, Nat.add_zero] at hx22_1)
       have hf22_1 := hfr22 1
       (try simp only [show (k36).sz = 4 from rfl, Nat.mul_one, Nat.add_zero] at hf22_1)
       have hx22_2 := hcc22 2 _ rfl
       (try simp only [show (k36).sz = 4 from rfl, Nat.mul_one, Nat.add_zero] at hx22_2)
       have hf22_2 := hfr22 2
       (try simp only [show (k36).sz = 4 from rfl, Nat.mul_one, Nat.add_zero] at hf22_2)
       have hx22_3 := hcc22 3 _ rfl
       (try simp only [show (k36).sz = 4 from rfl, Nat.mul_one, Nat.add_zero] at hx22_3)
       have hf22_3 := hfr22 3
       (try simp only [show (k36).sz = 4 from rfl, Nat.mul_one, Nat.add_zero] at hf22_3)
       clear hcl22 hcc22 hfr22 hM22
       go_wp2_with (first | ((with_reducible refine gate_store (t := 36) (p := 27) rfl ?_); refine store_event (t := 36) (p := 27) (v := ?vo_w23) (w1 := ((((wr.setCell ⟨go20, (x7_1 : Int).toNat * 4, none⟩ (.int .i64 x251000_1)).setCell ⟨go20, (x7_1 : Int).toNat * 4 + 1, none⟩ (.int .i64 x251001_1)).setCell ⟨go20, (x7_1 : Int).toNat * 4 + 2, none⟩ (.int .i64 x251002_1)).setCell ⟨go20, (x7_1 : Int).toNat * 4 + 3, none⟩ (.int .i64 x251003_1))) ?hg ?ho ?hn ?hr ?_; (case ho => rfl); (case hg => rfl); (case hn => rfl); (case hr => first | (go_simp; done) | (go_simp; rfl)); intro w23 hw; have hg : wr.grownBy w23 (some go20) := (by rw [hw]; exact HP22.2); have hp_ : Kd.R k36 36 w23 w0.heap.size (fun k_ => (P0_ k_ ∨ w.heap.size ≤ k_) ∧ k_ ≠ gb250) (.slice (some ⟨go20, 0, none⟩) x0_1.length co8) y261 := (by rw [hw, Ny261.out]; exact HP22.1); clear HP22; have n0_ := Aside0.mk (hp_); have n1_ := Aside0.mk (blk_grown (g := gb250) (o := .cells #[.int .i64 x251000_1, .int .i64 x251001_1, .int .i64 x251002_1, .int .i64 x251003_1] 36 (0, 0)) (by (with_reducible repeat (first | refine blk_drewN ?_ _ | refine blk_drew ?_ | refine blk_alloc ?_ _)); exact BK250.out) hg (Kd.R_away HO_0.out (fun _ hk => hk.2))); have n2_ := Aside0.mk ((by rw [hw]; exact below_set (below_set (below_set (below_set (HB.out) GB20.out) GB20.out) GB20.out) GB20.out : Below w0.heap.size w0 w23)); have n3_ := Aside0.mk (Kept.of_grown (S := (fun k_ => P0_ k_)) hg (by repeat (first | (with_reducible first | exact HK.out | apply Kept.alloc | apply Kept.drewN | apply Kept.drew | refine Kept.setCell ?_ (.inr GW250.out) _) | exact HK.out)) (fun k_ e_ => (HO_0.out.1 k_ e_).1)); clear HO_0; clear BK250; clear HB; clear HK; have HO_0 := n0_; have BK250 := n1_; have HB := n2_; have HK := n3_; clear n0_ n1_ n2_ n3_; clear hg hw hp_))
       (try simp only [← hl0_1])
       go_roundg k1
       case measure => have := HK1.out; omega
       case rel => exact ⟨(y261), (wrap64 (x7_1 + 1)), (x251000_1), (x251001_1), (x251002_1), (x251003_1), (by first | rfl | (simp; done) | (simp [*]; done)), H', ⟨by have := HK1.out; omega⟩, ⟨by (try simp only [hl0_1]); (with_reducible repeat (first | apply Kd.R_alloc | apply Kd.R_drewN | apply Kd.R_drew)); exact HO_0.out⟩, ⟨by (try simp only [hl0_1]); (with_reducible repeat (first | refine blk_drewN ?_ _ | refine blk_drew ?_ | refine blk_alloc ?_ _)); exact BK250.out⟩, ⟨by repeat (first | (with_reducible first | exact HK.out | apply Kept.alloc | apply Kept.drewN | apply Kept.drew | refine Kept.setCell ?_ (.inr GW250.out) _) | exact HK.out)⟩, ⟨by repeat (first | (with_reducible first | exact HB.out | apply below_alloc | apply pw_below_drewN | apply below_drew1 | refine below_set ?_ GE250.out) | exact HB.out)⟩⟩
      ·rw [if_neg c19] at H
       exact absurd H (by simp)
     ·rw [if_neg c18] at H
      have c18b0 : decide (x7_1 < (x0_1.length : Int)) = false := decide_eq_false c18
      clear c18
      simp only [Option.some.injEq, Prod.mk.injEq] at H
      obtain ⟨rfl, rfl⟩ := H
      go_wp2
      go_ret
      exact ⟨by first | rfl | (simp [errW_none, errW_some] <;> rfl) | (simp [*, errW_none, errW_some] <;> rfl), (by first | exact (by (with_reducible repeat (first | apply Kd.R_alloc | apply Kd.R_drewN | apply Kd.R_drew)); exact Kd.R_mono HO_0.out (fun _ hk => hk.1)) | (simp only [hl0_1]; exact (by (with_reducible repeat (first | apply Kd.R_alloc | apply Kd.R_drewN | apply Kd.R_drew)); exact Kd.R_mono HO_0.out (fun _ hk => hk.1)))), by repeat (first | (with_reducible first | exact HB.out | apply below_alloc | apply pw_below_drewN | apply below_drew1 | refine below_set ?_ GE250.out) | exact HB.out), by repeat (first | (with_reducible first | exact HK.out | apply Kept.alloc | apply Kept.drewN | apply Kept.drew | refine Kept.setCell ?_ (.inr GW250.out) _) | exact HK.out)⟩
  ·rw [if_neg c4] at H
   exact absurd H (by simp)
 ·rw [if_neg c3] at H
  exact absurd H (by simp)

end Go.Proofs.Ytameoapnhmoleaa.PP
