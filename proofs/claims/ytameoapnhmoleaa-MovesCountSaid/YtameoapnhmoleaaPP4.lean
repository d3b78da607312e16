-- Printed by the kit's print.py (turned by patchprint.py, made shorter by squeeze.py, mine). Not trusted: Lean checks it.
import Derived.Test.YtameoapnhmoleaaPU
import Derived.Test.YtameoapnhmoleaaPP1
namespace Go.Proofs.Ytameoapnhmoleaa.PP
open Go.RowKit Go.Proofs.YtameoapnhmoleaaW.PrintWords Go.Proofs.YtameoapnhmoleaaW.PrintLast Go.Proofs.YtameoapnhmoleaaW.PrintMore
attribute [local go_sem] max2_int min2_int max_two min_two max_three min_three max_four min_four   -- for this text's walks alone
set_option linter.unusedVariables false
set_option linter.unusedSimpArgs false
attribute [local go_sem high] eqA24
/-! ### quernlaw13_right: function 14 -/
mutual
def quernlaw13_right.j0 : Nat → List (S36) → Bool → Int → Int → Option (Bool)
 | 0, _, _, _, _ => none
 | k + 1, x0, x20, x283000, x283001 => if x20 = true then (some false) else (quernlaw13_right.l0 k x0 0 x283000 x283001)
def quernlaw13_right.l0 : Nat → List (S36) → Int → Int → Int → Option (Bool)
 | 0, _, _, _, _ => none
 | k + 1, x0, x5, x283000, x283001 => if x5 < (x0.length : Int) then (if 0 ≤ x5 then (if ((rd_T36 x0 x5).f0.f0) = 1 then (if ((rd_T36 x0 x5).f0.f1) < 0 then (quernlaw13_right.j2 k x0 x5 true x283000 x283001 ((rd_T36 x0 x5).f0.f0) ((rd_T36 x0 x5).f0.f1) ((rd_T36 x0 x5).f1.f0) ((rd_T36 x0 x5).f1.f1)) else (if ((rd_T36 x0 x5).f1.f0) < 1 then (quernlaw13_right.j2 k x0 x5 true x283000 x283001 ((rd_T36 x0 x5).f0.f0) ((rd_T36 x0 x5).f0.f1) ((rd_T36 x0 x5).f1.f0) ((rd_T36 x0 x5).f1.f1)) else (if ((rd_T36 x0 x5).f1.f0) > 3 then (quernlaw13_right.j2 k x0 x5 true x283000 x283001 ((rd_T36 x0 x5).f0.f0) ((rd_T36 x0 x5).f0.f1) ((rd_T36 x0 x5).f1.f0) ((rd_T36 x0 x5).f1.f1)) else (if ((rd_T36 x0 x5).f1.f0) < 3 then (if ((rd_T36 x0 x5).f1.f1) < 0 then (quernlaw13_right.j2 k x0 x5 true x283000 x283001 ((rd_T36 x0 x5).f0.f0) ((rd_T36 x0 x5).f0.f1) ((rd_T36 x0 x5).f1.f0) ((rd_T36 x0 x5).f1.f1)) else (if (((rd_T36 x0 x5).f0.f0) == x283000 && (((rd_T36 x0 x5).f0.f1) == x283001)) = true then (quernlaw13_right.j2 k x0 x5 true x283000 x283001 ((rd_T36 x0 x5).f0.f0) ((rd_T36 x0 x5).f0.f1) ((rd_T36 x0 x5).f1.f0) ((rd_T36 x0 x5).f1.f1)) else (quernlaw13_right.j2 k x0 x5 (((rd_T36 x0 x5).f1.f0) == x283000 && (((rd_T36 x0 x5).f1.f1) == x283001)) x283000 x283001 ((rd_T36 x0 x5).f0.f0) ((rd_T36 x0 x5).f0.f1) ((rd_T36 x0 x5).f1.f0) ((rd_T36 x0 x5).f1.f1)))) else (if (((rd_T36 x0 x5).f0.f0) == x283000 && (((rd_T36 x0 x5).f0.f1) == x283001)) = true then (quernlaw13_right.j2 k x0 x5 true x283000 x283001 ((rd_T36 x0 x5).f0.f0) ((rd_T36 x0 x5).f0.f1) ((rd_T36 x0 x5).f1.f0) ((rd_T36 x0 x5).f1.f1)) else (quernlaw13_right.j2 k x0 x5 (((rd_T36 x0 x5).f1.f0) == x283000 && (((rd_T36 x0 x5).f1.f1) == x283001)) x283000 x283001 ((rd_T36 x0 x5).f0.f0) ((rd_T36 x0 x5).f0.f1) ((rd_T36 x0 x5).f1.f0) ((rd_T36 x0 x5).f1.f1))))))) else (if ((rd_T36 x0 x5).f0.f0) = 2 then (if ((rd_T36 x0 x5).f0.f1) < 0 then (quernlaw13_right.j2 k x0 x5 true x283000 x283001 ((rd_T36 x0 x5).f0.f0) ((rd_T36 x0 x5).f0.f1) ((rd_T36 x0 x5).f1.f0) ((rd_T36 x0 x5).f1.f1)) else (if ((rd_T36 x0 x5).f1.f0) < 1 then (quernlaw13_right.j2 k x0 x5 true x283000 x283001 ((rd_T36 x0 x5).f0.f0) ((rd_T36 x0 x5).f0.f1) ((rd_T36 x0 x5).f1.f0) ((rd_T36 x0 x5).f1.f1)) else (if ((rd_T36 x0 x5).f1.f0) > 3 then (quernlaw13_right.j2 k x0 x5 true x283000 x283001 ((rd_T36 x0 x5).f0.f0) ((rd_T36 x0 x5).f0.f1) ((rd_T36 x0 x5).f1.f0) ((rd_T36 x0 x5).f1.f1)) else (if ((rd_T36 x0 x5).f1.f0) < 3 then (if ((rd_T36 x0 x5).f1.f1) < 0 then (quernlaw13_right.j2 k x0 x5 true x283000 x283001 ((rd_T36 x0 x5).f0.f0) ((rd_T36 x0 x5).f0.f1) ((rd_T36 x0 x5).f1.f0) ((rd_T36 x0 x5).f1.f1)) else (if (((rd_T36 x0 x5).f0.f0) == x283000 && (((rd_T36 x0 x5).f0.f1) == x283001)) = true then (quernlaw13_right.j2 k x0 x5 true x283000 x283001 ((rd_T36 x0 x5).f0.f0) ((rd_T36 x0 x5).f0.f1) ((rd_T36 x0 x5).f1.f0) ((rd_T36 x0 x5).f1.f1)) else (quernlaw13_right.j2 k x0 x5 (((rd_T36 x0 x5).f1.f0) == x283000 && (((rd_T36 x0 x5).f1.f1) == x283001)) x283000 x283001 ((rd_T36 x0 x5).f0.f0) ((rd_T36 x0 x5).f0.f1) ((rd_T36 x0 x5).f1.f0) ((rd_T36 x0 x5).f1.f1)))) else (if (((rd_T36 x0 x5).f0.f0) == x283000 && (((rd_T36 x0 x5).f0.f1) == x283001)) = true then (quernlaw13_right.j2 k x0 x5 true x283000 x283001 ((rd_T36 x0 x5).f0.f0) ((rd_T36 x0 x5).f0.f1) ((rd_T36 x0 x5).f1.f0) ((rd_T36 x0 x5).f1.f1)) else (quernlaw13_right.j2 k x0 x5 (((rd_T36 x0 x5).f1.f0) == x283000 && (((rd_T36 x0 x5).f1.f1) == x283001)) x283000 x283001 ((rd_T36 x0 x5).f0.f0) ((rd_T36 x0 x5).f0.f1) ((rd_T36 x0 x5).f1.f0) ((rd_T36 x0 x5).f1.f1))))))) else (quernlaw13_right.j2 k x0 x5 true x283000 x283001 ((rd_T36 x0 x5).f0.f0) ((rd_T36 x0 x5).f0.f1) ((rd_T36 x0 x5).f1.f0) ((rd_T36 x0 x5).f1.f1)))) else (none)) else (some true)
def quernlaw13_right.j2 : Nat → List (S36) → Int → Bool → Int → Int → Int → Int → Int → Int → Option (Bool)
 | 0, _, _, _, _, _, _, _, _, _ => none
 | k + 1, x0, x5, x82, x283000, x283001, x285000, x285001, x285002, x285003 => if x82 = true then (some false) else (quernlaw13_right.l1 k x0 x5 0 x283000 x283001 x285000 x285001 x285002 x285003)
def quernlaw13_right.l1 : Nat → List (S36) → Int → Int → Int → Int → Int → Int → Int → Int → Option (Bool)
 | 0, _, _, _, _, _, _, _, _, _ => none
 | k + 1, x0, x5, x7, x283000, x283001, x285000, x285001, x285002, x285003 => if x7 < x5 then (if 0 ≤ x7 then (if x7 < (x0.length : Int) then (if (((rd_T36 x0 x7).f0.f0) == x285000 && (((rd_T36 x0 x7).f0.f1) == x285001)) = true then (some false) else (quernlaw13_right.l1 k x0 x5 (wrap64 (x7 + 1)) x283000 x283001 x285000 x285001 x285002 x285003)) else (none)) else (none)) else (quernlaw13_right.l0 k x0 (wrap64 (x5 + 1)) x283000 x283001)
end
def quernlaw13_right.f (k : Nat) (l0 : List (S36)) (a1_0 : Int) (a1_1 : Int) : Option (Bool) := if a1_0 = 1 then (quernlaw13_right.j0 k l0 (decide (a1_1 < 0)) a1_0 a1_1) else (if a1_0 = 2 then (quernlaw13_right.j0 k l0 (decide (a1_1 < 0)) a1_0 a1_1) else (quernlaw13_right.j0 k l0 true a1_0 a1_1))
theorem quernlaw13_right.mono_l : ∀ k, (∀ y0 y1 y2 y3, LeO (quernlaw13_right.j0 k y0 y1 y2 y3) (quernlaw13_right.j0 (k + 1) y0 y1 y2 y3)) ∧ (∀ y0 y1 y2 y3, LeO (quernlaw13_right.l0 k y0 y1 y2 y3) (quernlaw13_right.l0 (k + 1) y0 y1 y2 y3)) ∧ (∀ y0 y1 y2 y3 y4 y5 y6 y7 y8, LeO (quernlaw13_right.j2 k y0 y1 y2 y3 y4 y5 y6 y7 y8) (quernlaw13_right.j2 (k + 1) y0 y1 y2 y3 y4 y5 y6 y7 y8)) ∧ (∀ y0 y1 y2 y3 y4 y5 y6 y7 y8, LeO (quernlaw13_right.l1 k y0 y1 y2 y3 y4 y5 y6 y7 y8) (quernlaw13_right.l1 (k + 1) y0 y1 y2 y3 y4 y5 y6 y7 y8))
 | 0 => ⟨fun _ _ _ _ r h => by simp [quernlaw13_right.j0] at h, fun _ _ _ _ r h => by simp [quernlaw13_right.l0] at h, fun _ _ _ _ _ _ _ _ _ r h => by simp [quernlaw13_right.j2] at h, fun _ _ _ _ _ _ _ _ _ r h => by simp [quernlaw13_right.l1] at h⟩
 | k + 1 => by
  obtain ⟨ih0, ih1, ih2, ih3⟩ := quernlaw13_right.mono_l k
  refine ⟨?_, ?_, ?_, ?_⟩
  ·intro y0 y1 y2 y3
   unfold quernlaw13_right.j0
   repeat' first
   | (with_reducible exact ih0 _ _ _ _)
   | (with_reducible exact ih1 _ _ _ _)
   | (with_reducible exact ih2 _ _ _ _ _ _ _ _ _)
   | (with_reducible exact ih3 _ _ _ _ _ _ _ _ _)
   | (with_reducible exact LeO.refl _)
   | (with_reducible exact LeO.none _)
   | (with_reducible refine LeO.ite ?_ ?_)
   | (with_reducible refine LeO.bind ?_ (fun _ => ?_))
   | exact ih0 _ _ _ _
   | exact ih1 _ _ _ _
   | exact ih2 _ _ _ _ _ _ _ _ _
   | exact ih3 _ _ _ _ _ _ _ _ _
   | exact LeO.none _
   | refine LeO.ite ?_ ?_
   | refine LeO.bind ?_ (fun _ => ?_)
  ·intro y0 y1 y2 y3
   unfold quernlaw13_right.l0
   repeat' first
   | (with_reducible exact ih0 _ _ _ _)
   | (with_reducible exact ih1 _ _ _ _)
   | (with_reducible exact ih2 _ _ _ _ _ _ _ _ _)
   | (with_reducible exact ih3 _ _ _ _ _ _ _ _ _)
   | (with_reducible exact LeO.refl _)
   | (with_reducible exact LeO.none _)
   | (with_reducible refine LeO.ite ?_ ?_)
   | (with_reducible refine LeO.bind ?_ (fun _ => ?_))
   | exact ih0 _ _ _ _
   | exact ih1 _ _ _ _
   | exact ih2 _ _ _ _ _ _ _ _ _
   | exact ih3 _ _ _ _ _ _ _ _ _
   | exact LeO.none _
   | refine LeO.ite ?_ ?_
   | refine LeO.bind ?_ (fun _ => ?_)
  ·intro y0 y1 y2 y3 y4 y5 y6 y7 y8
   unfold quernlaw13_right.j2
   repeat' first
   | (with_reducible exact ih0 _ _ _ _)
   | (with_reducible exact ih1 _ _ _ _)
   | (with_reducible exact ih2 _ _ _ _ _ _ _ _ _)
   | (with_reducible exact ih3 _ _ _ _ _ _ _ _ _)
   | (with_reducible exact LeO.refl _)
   | (with_reducible exact LeO.none _)
   | (with_reducible refine LeO.ite ?_ ?_)
   | (with_reducible refine LeO.bind ?_ (fun _ => ?_))
   | exact ih0 _ _ _ _
   | exact ih1 _ _ _ _
   | exact ih2 _ _ _ _ _ _ _ _ _
   | exact ih3 _ _ _ _ _ _ _ _ _
   | exact LeO.none _
   | refine LeO.ite ?_ ?_
   | refine LeO.bind ?_ (fun _ => ?_)
  ·intro y0 y1 y2 y3 y4 y5 y6 y7 y8
   unfold quernlaw13_right.l1
   repeat' first
   | (with_reducible exact ih0 _ _ _ _)
   | (with_reducible exact ih1 _ _ _ _)
   | (with_reducible exact ih2 _ _ _ _ _ _ _ _ _)
   | (with_reducible exact ih3 _ _ _ _ _ _ _ _ _)
   | (with_reducible exact LeO.refl _)
   | (with_reducible exact LeO.none _)
   | (with_reducible refine LeO.ite ?_ ?_)
   | (with_reducible refine LeO.bind ?_ (fun _ => ?_))
   | exact ih0 _ _ _ _
   | exact ih1 _ _ _ _
   | exact ih2 _ _ _ _ _ _ _ _ _
   | exact ih3 _ _ _ _ _ _ _ _ _
   | exact LeO.none _
   | refine LeO.ite ?_ ?_
   | refine LeO.bind ?_ (fun _ => ?_)
theorem quernlaw13_right.mono : ∀ a0 a1 a2 k, LeO (quernlaw13_right.f k a0 a1 a2) (quernlaw13_right.f (k + 1) a0 a1 a2) := by
 intro a0 a1 a2 k
 obtain ⟨ih0, ih1, ih2, ih3⟩ := quernlaw13_right.mono_l k
 unfold quernlaw13_right.f
 repeat' first
   | (with_reducible exact ih0 _ _ _ _)
   | (with_reducible exact ih1 _ _ _ _)
   | (with_reducible exact ih2 _ _ _ _ _ _ _ _ _)
   | (with_reducible exact ih3 _ _ _ _ _ _ _ _ _)
   | (with_reducible exact LeO.refl _)
   | (with_reducible exact LeO.none _)
   | (with_reducible refine LeO.ite ?_ ?_)
   | (with_reducible refine LeO.bind ?_ (fun _ => ?_))
   | exact ih0 _ _ _ _
   | exact ih1 _ _ _ _
   | exact ih2 _ _ _ _ _ _ _ _ _
   | exact ih3 _ _ _ _ _ _ _ _ _
   | exact LeO.none _
   | refine LeO.ite ?_ ?_
   | refine LeO.bind ?_ (fun _ => ?_)
set_option maxHeartbeats 8000000 in
set_option maxRecDepth 100000 in
theorem quernlaw13_right.calls (k : Nat) (A0 : Option Addr) (c0 : Nat) (l0 : List (S36)) (a1_0 : Int) (a1_1 : Int) (r : Bool) (w : World) (hr0 : Kd.C k36 w A0 l0.length l0) (hc0 : l0.length ≤ c0) (h : quernlaw13_right.f k l0 a1_0 a1_1 = some r) :
  Calls Try.prog 14 #[.slice A0 l0.length c0, .agg #[.int .i64 a1_0, .int .i64 a1_1]] w fun e w' => e = .returned (.bool r) ∧ Below w.heap.size w w' := by
 have hu24 := Try.underlying24
 have hu36 := Try.underlying36
 have HR0 := Aside0.mk hr0
 have HC0 := Aside0.mk hc0
 clear hr0 hc0
 have HB := Aside0.mk (Below.refl w.heap.size w)
 have H : (if a1_0 = 1 then (quernlaw13_right.j0 k l0 (decide (a1_1 < 0)) a1_0 a1_1) else (if a1_0 = 2 then (quernlaw13_right.j0 k l0 (decide (a1_1 < 0)) a1_0 a1_1) else (quernlaw13_right.j0 k l0 true a1_0 a1_1))) = some r := h
 clear h
 have HC3 := Aside0.mk H
 clear H
 go_enter Try.func14, Try.ntmps14
 go_upto_region 1 with (first | ((with_reducible refine gate_dst (N := 3) rfl ?_); refine box_event ?hg (N := 3) ?hd (cs := #[.int .i64 a1_0, .int .i64 a1_1]) (t := 24) ?hr ?_; (case hd => rfl); (case hg => rfl); (case hr => first | (go_simp; done) | (go_simp; rfl)); intro gb282 hg w4 hbox hb; have n0_ := Aside0.mk (below_step (by repeat (first | (with_reducible first | exact HB.out | apply below_alloc | apply pw_below_drewN | apply below_drew1) | exact HB.out)) hb); have n1_ := Aside0.mk (hbox); have n2_ := Aside0.mk ((by rw [hg]; exact (below_size (by repeat (first | (with_reducible first | exact HB.out | apply below_alloc | apply pw_below_drewN | apply below_drew1) | exact HB.out))) : w.heap.size ≤ gb282)); have n3_ := Aside0.mk ((by rw [hg]; exact (below_size (by repeat (first | (with_reducible first | exact HB.out | apply below_alloc | apply pw_below_drewN | apply below_drew1) | exact HB.out))) : w.heap.size ≤ gb282)); clear HB; have HB := n0_; have BK282 := n1_; have GW282 := n2_; have GE282 := n3_; clear n0_ n1_ n2_ n3_; clear hb hbox hg))
 repeat (go_quiet (first | ((with_reducible refine gate_dst (N := 3) rfl ?_); refine box_event ?hg (N := 3) ?hd (cs := #[.int .i64 a1_0, .int .i64 a1_1]) (t := 24) ?hr ?_; (case hd => rfl); (case hg => rfl); (case hr => first | (go_simp; done) | (go_simp; rfl)); intro gb282 hg w4 hbox hb; have n0_ := Aside0.mk (below_step (by repeat (first | (with_reducible first | exact HB.out | apply below_alloc | apply pw_below_drewN | apply below_drew1) | exact HB.out)) hb); have n1_ := Aside0.mk (hbox); have n2_ := Aside0.mk ((by rw [hg]; exact (below_size (by repeat (first | (with_reducible first | exact HB.out | apply below_alloc | apply pw_below_drewN | apply below_drew1) | exact HB.out))) : w.heap.size ≤ gb282)); have n3_ := Aside0.mk ((by rw [hg]; exact (below_size (by repeat (first | (with_reducible first | exact HB.out | apply below_alloc | apply pw_below_drewN | apply below_drew1) | exact HB.out))) : w.heap.size ≤ gb282)); clear HB; have HB := n0_; have BK282 := n1_; have GW282 := n2_; have GE282 := n3_; clear n0_ n1_ n2_ n3_; clear hb hbox hg)); go_upto_region 1 with (first | ((with_reducible refine gate_dst (N := 3) rfl ?_); refine box_event ?hg (N := 3) ?hd (cs := #[.int .i64 a1_0, .int .i64 a1_1]) (t := 24) ?hr ?_; (case hd => rfl); (case hg => rfl); (case hr => first | (go_simp; done) | (go_simp; rfl)); intro gb282 hg w4 hbox hb; have n0_ := Aside0.mk (below_step (by repeat (first | (with_reducible first | exact HB.out | apply below_alloc | apply pw_below_drewN | apply below_drew1) | exact HB.out)) hb); have n1_ := Aside0.mk (hbox); have n2_ := Aside0.mk ((by rw [hg]; exact (below_size (by repeat (first | (with_reducible first | exact HB.out | apply below_alloc | apply pw_below_drewN | apply below_drew1) | exact HB.out))) : w.heap.size ≤ gb282)); have n3_ := Aside0.mk ((by rw [hg]; exact (below_size (by repeat (first | (with_reducible first | exact HB.out | apply below_alloc | apply pw_below_drewN | apply below_drew1) | exact HB.out))) : w.heap.size ≤ gb282)); clear HB; have HB := n0_; have BK282 := n1_; have GW282 := n2_; have GE282 := n3_; clear n0_ n1_ n2_ n3_; clear hb hbox hg)))
 (try simp only [Act.put, List.setIfInBounds_toArray, List.set_cons_zero, List.set_cons_succ])
 go_cut [20] (fun v20 wc => ∃ (kq : Nat) (x20_2 : Bool), v20 = .bool x20_2 ∧ Aside0 (quernlaw13_right.j0 kq l0 x20_2 a1_0 a1_1 = some r) ∧ Aside0 (kq ≤ k) ∧ Aside0 (wc.heap[gb282]? = some (.cells #[.int .i64 a1_0, .int .i64 a1_1] 24 (0, 0))) ∧ Aside0 (Below w.heap.size w wc))
 case first =>
  have H := HC3.out
  clear HC3
  by_cases c5 : a1_0 = 1
  ·rw [if_pos c5] at H
   have c5b0 : (a1_0 == 1) = true := beq_iff_eq.mpr c5
   have c5b1 : (a1_0 != 1) = false := bne_eq_false_iff_eq.mpr c5
   clear c5
   (first | rw [c5b0] | (simp only [i64_w, i32_w]; rw [c5b0]) | skip)
   have H' := Aside0.mk H
   clear H
   have hcz6_0 : w4.cell? ⟨gb282, 0, none⟩ = some (.int .i64 a1_0) := (blk_cell BK282.out 0).trans rfl
   have hcz6_1 : w4.cell? ⟨gb282, 1, none⟩ = some (.int .i64 a1_1) := (blk_cell BK282.out 1).trans rfl
   have hfz6_0 := blk_frozen BK282.out 0
   have hfz6_1 := blk_frozen BK282.out 1
   go_wp2
   repeat (go_quiet (fail); try go_wp2)
   go_meet
   case rel => exact ⟨_, (decide (a1_1 < 0)), (by first | rfl | (simp; done) | (simp [*]; done)), H', ⟨by first | omega | exact Nat.le_refl _⟩, ⟨by (with_reducible repeat (first | refine blk_drewN ?_ _ | refine blk_drew ?_ | refine blk_alloc ?_ _)); exact BK282.out⟩, ⟨by repeat (first | (with_reducible first | exact HB.out | apply below_alloc | apply pw_below_drewN | apply below_drew1 | refine below_set ?_ GE282.out) | exact HB.out)⟩⟩
  ·rw [if_neg c5] at H
   have c5b0 : (a1_0 == 1) = false := beq_eq_false_iff_ne.mpr c5
   have c5b1 : (a1_0 != 1) = true := bne_iff_ne.mpr c5
   (first | rw [c5b0] | (simp only [i64_w, i32_w]; rw [c5b0]) | skip)
   by_cases c7 : a1_0 = 2
   ·rw [if_pos c7] at H
    have c7b0 : (a1_0 == 2) = true := beq_iff_eq.mpr c7
    have c7b1 : (a1_0 != 2) = false := bne_eq_false_iff_eq.mpr c7
    clear c7
    have H' := Aside0.mk H
    clear H
    have hcz8_0 : w4.cell? ⟨gb282, 0, none⟩ = some (.int .i64 a1_0) := (blk_cell BK282.out 0).trans rfl
    have hcz8_1 : w4.cell? ⟨gb282, 1, none⟩ = some (.int .i64 a1_1) := (blk_cell BK282.out 1).trans rfl
    have hfz8_0 := blk_frozen BK282.out 0
    have hfz8_1 := blk_frozen BK282.out 1
    go_wp2
    repeat (go_quiet (fail); try go_wp2)
    go_meet
    case rel => exact ⟨_, (decide (a1_1 < 0)), (by first | rfl | (simp; done) | (simp [*]; done)), H', ⟨by first | omega | exact Nat.le_refl _⟩, ⟨by (with_reducible repeat (first | refine blk_drewN ?_ _ | refine blk_drew ?_ | refine blk_alloc ?_ _)); exact BK282.out⟩, ⟨by repeat (first | (with_reducible first | exact HB.out | apply below_alloc | apply pw_below_drewN | apply below_drew1 | refine below_set ?_ GE282.out) | exact HB.out)⟩⟩
   ·rw [if_neg c7] at H
    have c7b0 : (a1_0 == 2) = false := beq_eq_false_iff_ne.mpr c7
    have c7b1 : (a1_0 != 2) = true := bne_iff_ne.mpr c7
    have H' := Aside0.mk H
    clear H
    have hcz9_0 : w4.cell? ⟨gb282, 0, none⟩ = some (.int .i64 a1_0) := (blk_cell BK282.out 0).trans rfl
    have hcz9_1 : w4.cell? ⟨gb282, 1, none⟩ = some (.int .i64 a1_1) := (blk_cell BK282.out 1).trans rfl
    have hfz9_0 := blk_frozen BK282.out 0
    have hfz9_1 := blk_frozen BK282.out 1
    go_wp2
    repeat (go_quiet (fail); try go_wp2)
    go_meet
    case rel => exact ⟨_, (true), (by first | rfl | (simp; done) | (simp [*]; done)), H', ⟨by first | omega | exact Nat.le_refl _⟩, ⟨by (with_reducible repeat (first | refine blk_drewN ?_ _ | refine blk_drew ?_ | refine blk_alloc ?_ _)); exact BK282.out⟩, ⟨by repeat (first | (with_reducible first | exact HB.out | apply below_alloc | apply pw_below_drewN | apply below_drew1 | refine below_set ?_ GE282.out) | exact HB.out)⟩⟩
 case rest =>
  clear HC3
  try clear c1
  try clear p2
  try clear c5
  try clear c5b0
  try clear c5b1
  try clear c7
  try clear c7b0
  try clear c7b1
  try clear hcz6_0
  try clear hcz6_1
  try clear hcz8_0
  try clear hcz8_1
  try clear hcz9_0
  try clear hcz9_1
  try clear hfz6_0
  try clear hfz6_1
  try clear hfz8_0
  try clear hfz8_1
  try clear hfz9_0
  try clear hfz9_1
  obtain ⟨kq, x20_2, rfl, HA, HJ2, BK282, HB⟩ := hcut
  cases kq with
  | zero => exact absurd HA.out (by simp [quernlaw13_right.j0])
  | succ kj2 =>
   have H := HA.out
   clear HA
   simp only [quernlaw13_right.j0] at H
   by_cases c10 : x20_2 = true
   ·subst c10
    have H1 : (some false) = some r := by rw [if_pos rfl] at H; exact H
    clear H
    have H := H1
    clear H1
    obtain rfl := Option.some.inj H
    go_wp2
    repeat (go_quiet (fail); try go_wp2)
    go_ret
    exact ⟨by first | rfl | (simp [errW_none, errW_some] <;> rfl) | (simp [*, errW_none, errW_some] <;> rfl), by repeat (first | (with_reducible first | exact HB.out | apply below_alloc | apply pw_below_drewN | apply below_drew1 | refine below_set ?_ GE282.out) | exact HB.out)⟩
   ·replace c10 := Bool.eq_false_iff.mpr c10
    subst c10
    have H1 : (quernlaw13_right.l0 kj2 l0 0 a1_0 a1_1) = some r := by rw [if_neg (show ¬ (false = true) by decide)] at H; exact H
    clear H
    have H := H1
    clear H1
    have H' := Aside0.mk H
    clear H
    go_wp2
    repeat (go_quiet (fail); try go_wp2)
    go_loopg [5] kj2 (fun kq v5 w' => ∃ (x5_2 : Int), v5 = .int .i64 x5_2 ∧ Aside0 (quernlaw13_right.l0 kq l0 x5_2 a1_0 a1_1 = some r) ∧ Aside0 (kq ≤ kj2) ∧ Aside0 (w'.heap[gb282]? = some (.cells #[.int .i64 a1_0, .int .i64 a1_1] 24 (0, 0))) ∧ Aside0 (Below w.heap.size w w'))
    case atStart => exact ⟨(0), (by first | rfl | (simp; done) | (simp [*]; done)), H', ⟨Nat.le_refl _⟩, ⟨by (with_reducible repeat (first | refine blk_drewN ?_ _ | refine blk_drew ?_ | refine blk_alloc ?_ _)); exact BK282.out⟩, ⟨by repeat (first | (with_reducible first | exact HB.out | apply below_alloc | apply pw_below_drewN | apply below_drew1 | refine below_set ?_ GE282.out) | exact HB.out)⟩⟩
    case round =>
     clear H'
     try clear c1
     try clear p2
     try clear c5
     try clear c5b0
     try clear c5b1
     try clear c7
     try clear c7b0
     try clear c7b1
     try clear c10
     try clear hcz6_0
     try clear hcz6_1
     try clear hcz8_0
     try clear hcz8_1
     try clear hcz9_0
     try clear hcz9_1
     try clear hfz6_0
     try clear hfz6_1
     try clear hfz8_0
     try clear hfz8_1
     try clear hfz9_0
     try clear hfz9_1
     try clear p2
     obtain ⟨x5_2, rfl, HA, HK2, BK282, HB⟩ := hrel
     cases gk with
     | zero => exact absurd HA.out (by simp [quernlaw13_right.l0])
     | succ k2 =>
      have H := HA.out
      clear HA
      simp only [quernlaw13_right.l0] at H
      by_cases c11 : x5_2 < (l0.length : Int)
      ·rw [if_pos c11] at H
       have c11b0 : decide (x5_2 < (l0.length : Int)) = true := decide_eq_true c11
       clear c11
       by_cases c12 : 0 ≤ x5_2
       ·rw [if_pos c12] at H
        have c12b0 : decide (0 ≤ x5_2) = true := decide_eq_true c12
        clear c12
        have HC13 := Aside0.mk H
        clear H
        have p283 : 0 ≤ (x5_2 : Int) := of_decide_eq_true (by first | (with_reducible assumption) | assumption)
        have q283 : x5_2 < (l0.length : Int) := of_decide_eq_true (by first | (with_reducible assumption) | assumption)
        obtain ⟨ad283, e283, hx283_0, hx283_1, hx283_2, hx283_3⟩ := at_T36 HR0.out x5_2 p283 q283
        cases e283
        replace hx283_0 := cellA HB hx283_0
        replace hx283_1 := cellA HB hx283_1
        replace hx283_2 := cellA HB hx283_2
        replace hx283_3 := cellA HB hx283_3
        replace p283 := eq_true p283
        replace q283 := eq_true q283
        go_upto_region 7 with (first | ((with_reducible refine gate_dst (N := 6) rfl ?_); refine box_event ?hg (N := 6) ?hd (cs := #[.int .i64 0, .int .i64 0, .int .i64 0, .int .i64 0]) (t := 36) ?hr ?_; (case hd => rfl); (case hg => rfl); (case hr => first | (go_simp; done) | (go_simp; rfl)); intro gb284 hg w14 hbox hb; have n0_ := Aside0.mk (blk_below (g := gb282) (o := .cells #[.int .i64 a1_0, .int .i64 a1_1] 24 (0, 0)) (by (with_reducible repeat (first | refine blk_drewN ?_ _ | refine blk_drew ?_ | refine blk_alloc ?_ _)); exact BK282.out) hb); have n1_ := Aside0.mk (below_step (by repeat (first | (with_reducible first | exact HB.out | apply below_alloc | apply pw_below_drewN | apply below_drew1 | refine below_set ?_ GE282.out) | exact HB.out)) hb); have n2_ := Aside0.mk (hbox); have n3_ := Aside0.mk ((by rw [hg]; exact (below_size (by repeat (first | (with_reducible first | exact HB.out | apply below_alloc | apply pw_below_drewN | apply below_drew1 | refine below_set ?_ GE282.out) | exact HB.out))) : w.heap.size ≤ gb284)); have n4_ := Aside0.mk ((by rw [hg]; exact (below_size (by repeat (first | (with_reducible first | exact HB.out | apply below_alloc | apply pw_below_drewN | apply below_drew1 | refine below_set ?_ GE282.out) | exact HB.out))) : w.heap.size ≤ gb284)); have n5_ := Aside0.mk ((by rw [hg]; exact Nat.ne_of_lt (blk_lt (g := gb282) (o := .cells #[.int .i64 a1_0, .int .i64 a1_1] 24 (0, 0)) (by (with_reducible repeat (first | refine blk_drewN ?_ _ | refine blk_drew ?_ | refine blk_alloc ?_ _)); exact BK282.out)) : gb282 ≠ gb284)); have n6_ := Aside0.mk ((by rw [hg]; exact Nat.ne_of_gt (blk_lt (g := gb282) (o := .cells #[.int .i64 a1_0, .int .i64 a1_1] 24 (0, 0)) (by (with_reducible repeat (first | refine blk_drewN ?_ _ | refine blk_drew ?_ | refine blk_alloc ?_ _)); exact BK282.out)) : gb284 ≠ gb282)); clear BK282; clear HB; have BK282 := n0_; have HB := n1_; have BK284 := n2_; have GW284 := n3_; have GE284 := n4_; have NB282_284 := n5_; have NB284_282 := n6_; clear n0_ n1_ n2_ n3_ n4_ n5_ n6_; clear hb hbox hg; have hnb15 := NB284_282.out; have hnc15 := NB282_284.out; have hcz16_0 : w14.cell? ⟨gb284, 0, none⟩ = some (.int .i64 0) := (blk_cell BK284.out 0).trans rfl; have hcz16_1 : w14.cell? ⟨gb284, 1, none⟩ = some (.int .i64 0) := (blk_cell BK284.out 1).trans rfl; have hcz16_2 : w14.cell? ⟨gb284, 2, none⟩ = some (.int .i64 0) := (blk_cell BK284.out 2).trans rfl; have hcz16_3 : w14.cell? ⟨gb284, 3, none⟩ = some (.int .i64 0) := (blk_cell BK284.out 3).trans rfl; have hfz16_0 := blk_frozen BK284.out 0; have hfz16_1 := blk_frozen BK284.out 1; have hfz16_2 := blk_frozen BK284.out 2; have hfz16_3 := blk_frozen BK284.out 3))
        repeat (go_quiet (first | ((with_reducible refine gate_dst (N := 6) rfl ?_); refine box_event ?hg (N := 6) ?hd (cs := #[.int .i64 0, .int .i64 0, .int .i64 0, .int .i64 0]) (t := 36) ?hr ?_; (case hd => rfl); (case hg => rfl); (case hr => first | (go_simp; done) | (go_simp; rfl)); intro gb284 hg w14 hbox hb; have n0_ := Aside0.mk (blk_below (g := gb282) (o := .cells #[.int .i64 a1_0, .int .i64 a1_1] 24 (0, 0)) (by (with_reducible repeat (first | refine blk_drewN ?_ _ | refine blk_drew ?_ | refine blk_alloc ?_ _)); exact BK282.out) hb); have n1_ := Aside0.mk (below_step (by repeat (first | (with_reducible first | exact HB.out | apply below_alloc | apply pw_below_drewN | apply below_drew1 | refine below_set ?_ GE282.out) | exact HB.out)) hb); have n2_ := Aside0.mk (hbox); have n3_ := Aside0.mk ((by rw [hg]; exact (below_size (by repeat (first | (with_reducible first | exact HB.out | apply below_alloc | apply pw_below_drewN | apply below_drew1 | refine below_set ?_ GE282.out) | exact HB.out))) : w.heap.size ≤ gb284)); have n4_ := Aside0.mk ((by rw [hg]; exact (below_size (by repeat (first | (with_reducible first | exact HB.out | apply below_alloc | apply pw_below_drewN | apply below_drew1 | refine below_set ?_ GE282.out) | exact HB.out))) : w.heap.size ≤ gb284)); have n5_ := Aside0.mk ((by rw [hg]; exact Nat.ne_of_lt (blk_lt (g := gb282) (o := .cells #[.int .i64 a1_0, .int .i64 a1_1] 24 (0, 0)) (by (with_reducible repeat (first | refine blk_drewN ?_ _ | refine blk_drew ?_ | refine blk_alloc ?_ _)); exact BK282.out)) : gb282 ≠ gb284)); have n6_ := Aside0.mk ((by rw [hg]; exact Nat.ne_of_gt (blk_lt (g := gb282) (o := .cells #[.int .i64 a1_0, .int .i64 a1_1] 24 (0, 0)) (by (with_reducible repeat (first | refine blk_drewN ?_ _ | refine blk_drew ?_ | refine blk_alloc ?_ _)); exact BK282.out)) : gb284 ≠ gb282)); clear BK282; clear HB; have BK282 := n0_; have HB := n1_; have BK284 := n2_; have GW284 := n3_; have GE284 := n4_; have NB282_284 := n5_; have NB284_282 := n6_; clear n0_ n1_ n2_ n3_ n4_ n5_ n6_; clear hb hbox hg; have hnb15 := NB284_282.out; have hnc15 := NB282_284.out; have hcz16_0 : w14.cell? ⟨gb284, 0, none⟩ = some (.int .i64 0) := (blk_cell BK284.out 0).trans rfl; have hcz16_1 : w14.cell? ⟨gb284, 1, none⟩ = some (.int .i64 0) := (blk_cell BK284.out 1).trans rfl; have hcz16_2 : w14.cell? ⟨gb284, 2, none⟩ = some (.int .i64 0) := (blk_cell BK284.out 2).trans rfl; have hcz16_3 : w14.cell? ⟨gb284, 3, none⟩ = some (.int .i64 0) := (blk_cell BK284.out 3).trans rfl; have hfz16_0 := blk_frozen BK284.out 0; have hfz16_1 := blk_frozen BK284.out 1; have hfz16_2 := blk_frozen BK284.out 2; have hfz16_3 := blk_frozen BK284.out 3)); go_upto_region 7 with (first | ((with_reducible refine gate_dst (N := 6) rfl ?_); refine box_event ?hg (N := 6) ?hd (cs := #[.int .i64 0, .int .i64 0, .int .i64 0, .int .i64 0]) (t := 36) ?hr ?_; (case hd => rfl); (case hg => rfl); (case hr => first | (go_simp; done) | (go_simp; rfl)); intro gb284 hg w14 hbox hb; have n0_ := Aside0.mk (blk_below (g := gb282) (o := .cells #[.int .i64 a1_0, .int .i64 a1_1] 24 (0, 0)) (by (with_reducible repeat (first | refine blk_drewN ?_ _ | refine blk_drew ?_ | refine blk_alloc ?_ _)); exact BK282.out) hb); have n1_ := Aside0.mk (below_step (by repeat (first | (with_reducible first | exact HB.out | apply below_alloc | apply pw_below_drewN | apply below_drew1 | refine below_set ?_ GE282.out) | exact HB.out)) hb); have n2_ := Aside0.mk (hbox); have n3_ := Aside0.mk ((by rw [hg]; exact (below_size (by repeat (first | (with_reducible first | exact HB.out | apply below_alloc | apply pw_below_drewN | apply below_drew1 | refine below_set ?_ GE282.out) | exact HB.out))) : w.heap.size ≤ gb284)); have n4_ := Aside0.mk ((by rw [hg]; exact (below_size (by repeat (first | (with_reducible first | exact HB.out | apply below_alloc | apply pw_below_drewN | apply below_drew1 | refine below_set ?_ GE282.out) | exact HB.out))) : w.heap.size ≤ gb284)); have n5_ := Aside0.mk ((by rw [hg]; exact Nat.ne_of_lt (blk_lt (g := gb282) (o := .cells #[.int .i64 a1_0, .int .i64 a1_1] 24 (0, 0)) (by (with_reducible repeat (first | refine blk_drewN ?_ _ | refine blk_drew ?_ | refine blk_alloc ?_ _)); exact BK282.out)) : gb282 ≠ gb284)); have n6_ := Aside0.mk ((by rw [hg]; exact Nat.ne_of_gt (blk_lt (g := gb282) (o := .cells #[.int .i64 a1_0, .int .i64 a1_1] 24 (0, 0)) (by (with_reducible repeat (first | refine blk_drewN ?_ _ | refine blk_drew ?_ | refine blk_alloc ?_ _)); exact BK282.out)) : gb284 ≠ gb282)); clear BK282; clear HB; have BK282 := n0_; have HB := n1_; have BK284 := n2_; have GW284 := n3_; have GE284 := n4_; have NB282_284 := n5_; have NB284_282 := n6_; clear n0_ n1_ n2_ n3_ n4_ n5_ n6_; clear hb hbox hg; have hnb15 := NB284_282.out; have hnc15 := NB282_284.out; have hcz16_0 : w14.cell? ⟨gb284, 0, none⟩ = some (.int .i64 0) := (blk_cell BK284.out 0).trans rfl; have hcz16_1 : w14.cell? ⟨gb284, 1, none⟩ = some (.int .i64 0) := (blk_cell BK284.out 1).trans rfl; have hcz16_2 : w14.cell? ⟨gb284, 2, none⟩ = some (.int .i64 0) := (blk_cell BK284.out 2).trans rfl; have hcz16_3 : w14.cell? ⟨gb284, 3, none⟩ = some (.int .i64 0) := (blk_cell BK284.out 3).trans rfl; have hfz16_0 := blk_frozen BK284.out 0; have hfz16_1 := blk_frozen BK284.out 1; have hfz16_2 := blk_frozen BK284.out 2; have hfz16_3 := blk_frozen BK284.out 3)))
        (try simp only [Act.put, List.setIfInBounds_toArray, List.set_cons_zero, List.set_cons_succ])
        go_cut [82] (fun v82 wc => ∃ (kq : Nat) (x82_12 : Bool), v82 = .bool x82_12 ∧ Aside0 (quernlaw13_right.j2 kq l0 x5_2 x82_12 a1_0 a1_1 ((rd_T36 l0 x5_2).f0.f0) ((rd_T36 l0 x5_2).f0.f1) ((rd_T36 l0 x5_2).f1.f0) ((rd_T36 l0 x5_2).f1.f1) = some r) ∧ Aside0 (kq ≤ k2) ∧ Aside0 (wc.heap[gb282]? = some (.cells #[.int .i64 a1_0, .int .i64 a1_1] 24 (0, 0))) ∧ Aside0 (wc.heap[gb284]? = some (.cells #[.int .i64 ((rd_T36 l0 x5_2).f0.f0), .int .i64 ((rd_T36 l0 x5_2).f0.f1), .int .i64 ((rd_T36 l0 x5_2).f1.f0), .int .i64 ((rd_T36 l0 x5_2).f1.f1)] 36 (0, 0))) ∧ Aside0 (Below w.heap.size w wc))
        case first =>
         have H := HC13.out
         clear HC13
         by_cases c17 : ((rd_T36 l0 x5_2).f0.f0) = 1
         ·rw [if_pos c17] at H
          have c17b0 : (((rd_T36 l0 x5_2).f0.f0) == 1) = true := beq_iff_eq.mpr c17
          have c17b1 : (((rd_T36 l0 x5_2).f0.f0) != 1) = false := bne_eq_false_iff_eq.mpr c17
          clear c17
          (first | rw [c17b0] | (simp only [i64_w, i32_w]; rw [c17b0]) | skip)
          by_cases c18 : ((rd_T36 l0 x5_2).f0.f1) < 0
          ·rw [if_pos c18] at H
           have c18b0 : decide (((rd_T36 l0 x5_2).f0.f1) < 0) = true := decide_eq_true c18
           clear c18
           have H' := Aside0.mk H
           clear H
           have hnb19 := NB284_282.out
           have hnc19 := NB282_284.out
           have hcz20_0 : w14.cell? ⟨gb284, 0, none⟩ = some (.int .i64 0) := (blk_cell BK284.out 0).trans rfl
           have hcz20_1 : w14.cell? ⟨gb284, 1, none⟩ = some (.int .i64 0) := (blk_cell BK284.out 1).trans rfl
           have hcz20_2 : w14.cell? ⟨gb284, 2, none⟩ = some (.int .i64 0) := (blk_cell BK284.out 2).trans rfl
           have hcz20_3 : w14.cell? ⟨gb284, 3, none⟩ = some (.int .i64 0) := (blk_cell BK284.out 3).trans rfl
           have hfz20_0 := blk_frozen BK284.out 0
           have hfz20_1 := blk_frozen BK284.out 1
           have hfz20_2 := blk_frozen BK284.out 2
           have hfz20_3 := blk_frozen BK284.out 3
           go_wp2
           repeat (go_quiet (fail); try go_wp2)
           go_meet
           case rel => exact ⟨_, (true), (by first | rfl | (simp; done) | (simp [*]; done)), H', ⟨by have := HJ2.out; have := HK2.out; first | omega | exact Nat.le_refl _⟩, ⟨by (with_reducible repeat (first | refine blk_drewN ?_ _ | refine blk_drew ?_ | refine blk_alloc ?_ _)); refine blk_far ?_ NB282_284.out _; (with_reducible repeat (first | refine blk_drewN ?_ _ | refine blk_drew ?_ | refine blk_alloc ?_ _)); refine blk_far ?_ NB282_284.out _; (with_reducible repeat (first | refine blk_drewN ?_ _ | refine blk_drew ?_ | refine blk_alloc ?_ _)); refine blk_far ?_ NB282_284.out _; (with_reducible repeat (first | refine blk_drewN ?_ _ | refine blk_drew ?_ | refine blk_alloc ?_ _)); refine blk_far ?_ NB282_284.out _; (with_reducible repeat (first | refine blk_drewN ?_ _ | refine blk_drew ?_ | refine blk_alloc ?_ _)); exact BK282.out⟩, ⟨by (with_reducible repeat (first | refine blk_drewN ?_ _ | refine blk_drew ?_ | refine blk_alloc ?_ _)); refine blk_put (cs := #[.int .i64 ((rd_T36 l0 x5_2).f0.f0), .int .i64 ((rd_T36 l0 x5_2).f0.f1), .int .i64 ((rd_T36 l0 x5_2).f1.f0), .int .i64 0]) ?_ 3 _ rfl; (with_reducible repeat (first | refine blk_drewN ?_ _ | refine blk_drew ?_ | refine blk_alloc ?_ _)); refine blk_put (cs := #[.int .i64 ((rd_T36 l0 x5_2).f0.f0), .int .i64 ((rd_T36 l0 x5_2).f0.f1), .int .i64 0, .int .i64 0]) ?_ 2 _ rfl; (with_reducible repeat (first | refine blk_drewN ?_ _ | refine blk_drew ?_ | refine blk_alloc ?_ _)); refine blk_put (cs := #[.int .i64 ((rd_T36 l0 x5_2).f0.f0), .int .i64 0, .int .i64 0, .int .i64 0]) ?_ 1 _ rfl; (with_reducible repeat (first | refine blk_drewN ?_ _ | refine blk_drew ?_ | refine blk_alloc ?_ _)); refine blk_put (cs := #[.int .i64 0, .int .i64 0, .int .i64 0, .int .i64 0]) ?_ 0 _ rfl; (with_reducible repeat (first | refine blk_drewN ?_ _ | refine blk_drew ?_ | refine blk_alloc ?_ _)); exact BK284.out⟩, ⟨by repeat (first | (with_reducible first | exact HB.out | apply below_alloc | apply pw_below_drewN | apply below_drew1 | refine below_set ?_ GE282.out | refine below_set ?_ GE284.out) | exact HB.out)⟩⟩
          ·rw [if_neg c18] at H
           have c18b0 : decide (((rd_T36 l0 x5_2).f0.f1) < 0) = false := decide_eq_false c18
           clear c18
           by_cases c21 : ((rd_T36 l0 x5_2).f1.f0) < 1
           ·rw [if_pos c21] at H
            have c21b0 : decide (((rd_T36 l0 x5_2).f1.f0) < 1) = true := decide_eq_true c21
            clear c21
            have H' := Aside0.mk H
            clear H
            have hnb22 := NB284_282.out
            have hnc22 := NB282_284.out
            have hcz23_0 : w14.cell? ⟨gb284, 0, none⟩ = some (.int .i64 0) := (blk_cell BK284.out 0).trans rfl
            have hcz23_1 : w14.cell? ⟨gb284, 1, none⟩ = some (.int .i64 0) := (blk_cell BK284.out 1).trans rfl
            have hcz23_2 : w14.cell? ⟨gb284, 2, none⟩ = some (.int .i64 0) := (blk_cell BK284.out 2).trans rfl
            have hcz23_3 : w14.cell? ⟨gb284, 3, none⟩ = some (.int .i64 0) := (blk_cell BK284.out 3).trans rfl
            have hfz23_0 := blk_frozen BK284.out 0
            have hfz23_1 := blk_frozen BK284.out 1
            have hfz23_2 := blk_frozen BK284.out 2
            have hfz23_3 := blk_frozen BK284.out 3
            go_wp2
            repeat (go_quiet (fail); try go_wp2)
            go_meet
            case rel => exact ⟨_, (true), (by first | rfl | (simp; done) | (simp [*]; done)), H', ⟨by have := HJ2.out; have := HK2.out; first | omega | exact Nat.le_refl _⟩, ⟨by (with_reducible repeat (first | refine blk_drewN ?_ _ | refine blk_drew ?_ | refine blk_alloc ?_ _)); refine blk_far ?_ NB282_284.out _; (with_reducible repeat (first | refine blk_drewN ?_ _ | refine blk_drew ?_ | refine blk_alloc ?_ _)); refine blk_far ?_ NB282_284.out _; (with_reducible repeat (first | refine blk_drewN ?_ _ | refine blk_drew ?_ | refine blk_alloc ?_ _)); refine blk_far ?_ NB282_284.out _; (with_reducible repeat (first | refine blk_drewN ?_ _ | refine blk_drew ?_ | refine blk_alloc ?_ _)); refine blk_far ?_ NB282_284.out _; (with_reducible repeat (first | refine blk_drewN ?_ _ | refine blk_drew ?_ | refine blk_alloc ?_ _)); exact BK282.out⟩, ⟨by (with_reducible repeat (first | refine blk_drewN ?_ _ | refine blk_drew ?_ | refine blk_alloc ?_ _)); refine blk_put (cs := #[.int .i64 ((rd_T36 l0 x5_2).f0.f0), .int .i64 ((rd_T36 l0 x5_2).f0.f1), .int .i64 ((rd_T36 l0 x5_2).f1.f0), .int .i64 0]) ?_ 3 _ rfl; (with_reducible repeat (first | refine blk_drewN ?_ _ | refine blk_drew ?_ | refine blk_alloc ?_ _)); refine blk_put (cs := #[.int .i64 ((rd_T36 l0 x5_2).f0.f0), .int .i64 ((rd_T36 l0 x5_2).f0.f1), .int .i64 0, .int .i64 0]) ?_ 2 _ rfl; (with_reducible repeat (first | refine blk_drewN ?_ _ | refine blk_drew ?_ | refine blk_alloc ?_ _)); refine blk_put (cs := #[.int .i64 ((rd_T36 l0 x5_2).f0.f0), .int .i64 0, .int .i64 0, .int .i64 0]) ?_ 1 _ rfl; (with_reducible repeat (first | refine blk_drewN ?_ _ | refine blk_drew ?_ | refine blk_alloc ?_ _)); refine blk_put (cs := #[.int .i64 0, .int .i64 0, .int .i64 0, .int .i64 0]) ?_ 0 _ rfl; (with_reducible repeat (first | refine blk_drewN ?_ _ | refine blk_drew ?_ | refine blk_alloc ?_ _)); exact BK284.out⟩, ⟨by repeat (first | (with_reducible first | exact HB.out | apply below_alloc | apply pw_below_drewN | apply below_drew1 | refine below_set ?_ GE282.out | refine below_set ?_ GE284.out) | exact HB.out)⟩⟩
           ·rw [if_neg c21] at H
            have c21b0 : decide (((rd_T36 l0 x5_2).f1.f0) < 1) = false := decide_eq_false c21
            clear c21
            by_cases c24 : ((rd_T36 l0 x5_2).f1.f0) > 3
            ·rw [if_pos c24] at H
             have c24b0 : decide (3 < ((rd_T36 l0 x5_2).f1.f0)) = true := decide_eq_true c24
             clear c24
             have H' := Aside0.mk H
             clear H
             have hnb25 := NB284_282.out
             have hnc25 := NB282_284.out
             have hcz26_0 : w14.cell? ⟨gb284, 0, none⟩ = some (.int .i64 0) := (blk_cell BK284.out 0).trans rfl
             have hcz26_1 : w14.cell? ⟨gb284, 1, none⟩ = some (.int .i64 0) := (blk_cell BK284.out 1).trans rfl
             have hcz26_2 : w14.cell? ⟨gb284, 2, none⟩ = some (.int .i64 0) := (blk_cell BK284.out 2).trans rfl
             have hcz26_3 : w14.cell? ⟨gb284, 3, none⟩ = some (.int .i64 0) := (blk_cell BK284.out 3).trans rfl
             have hfz26_0 := blk_frozen BK284.out 0
             have hfz26_1 := blk_frozen BK284.out 1
             have hfz26_2 := blk_frozen BK284.out 2
             have hfz26_3 := blk_frozen BK284.out 3
             go_wp2
             repeat (go_quiet (fail); try go_wp2)
             go_meet
             case rel => exact ⟨_, (true), (by first | rfl | (simp; done) | (simp [*]; done)), H', ⟨by have := HJ2.out; have := HK2.out; first | omega | exact Nat.le_refl _⟩, ⟨by (with_reducible repeat (first | refine blk_drewN ?_ _ | refine blk_drew ?_ | refine blk_alloc ?_ _)); refine blk_far ?_ NB282_284.out _; (with_reducible repeat (first | refine blk_drewN ?_ _ | refine blk_drew ?_ | refine blk_alloc ?_ _)); refine blk_far ?_ NB282_284.out _; (with_reducible repeat (first | refine blk_drewN ?_ _ | refine blk_drew ?_ | refine blk_alloc ?_ _)); refine blk_far ?_ NB282_284.out _; (with_reducible repeat (first | refine blk_drewN ?_ _ | refine blk_drew ?_ | refine blk_alloc ?_ _)); refine blk_far ?_ NB282_284.out _; (with_reducible repeat (first | refine blk_drewN ?_ _ | refine blk_drew ?_ | refine blk_alloc ?_ _)); exact BK282.out⟩, ⟨by (with_reducible repeat (first | refine blk_drewN ?_ _ | refine blk_drew ?_ | refine blk_alloc ?_ _)); refine blk_put (cs := #[.int .i64 ((rd_T36 l0 x5_2).f0.f0), .int .i64 ((rd_T36 l0 x5_2).f0.f1), .int .i64 ((rd_T36 l0 x5_2).f1.f0), .int .i64 0]) ?_ 3 _ rfl; (with_reducible repeat (first | refine blk_drewN ?_ _ | refine blk_drew ?_ | refine blk_alloc ?_ _)); refine blk_put (cs := #[.int .i64 ((rd_T36 l0 x5_2).f0.f0), .int .i64 ((rd_T36 l0 x5_2).f0.f1), .int .i64 0, .int .i64 0]) ?_ 2 _ rfl; (with_reducible repeat (first | refine blk_drewN ?_ _ | refine blk_drew ?_ | refine blk_alloc ?_ _)); refine blk_put (cs := #[.int .i64 ((rd_T36 l0 x5_2).f0.f0), .int .i64 0, .int .i64 0, .int .i64 0]) ?_ 1 _ rfl; (with_reducible repeat (first | refine blk_drewN ?_ _ | refine blk_drew ?_ | refine blk_alloc ?_ _)); refine blk_put (cs := #[.int .i64 0, .int .i64 0, .int .i64 0, .int .i64 0]) ?_ 0 _ rfl; (with_reducible repeat (first | refine blk_drewN ?_ _ | refine blk_drew ?_ | refine blk_alloc ?_ _)); exact BK284.out⟩, ⟨by repeat (first | (with_reducible first | exact HB.out | apply below_alloc | apply pw_below_drewN | apply below_drew1 | refine below_set ?_ GE282.out | refine below_set ?_ GE284.out) | exact HB.out)⟩⟩
            ·rw [if_neg c24] at H
             have c24b0 : decide (3 < ((rd_T36 l0 x5_2).f1.f0)) = false := decide_eq_false c24
             clear c24
             by_cases c27 : ((rd_T36 l0 x5_2).f1.f0) < 3
             ·rw [if_pos c27] at H
              have c27b0 : decide (((rd_T36 l0 x5_2).f1.f0) < 3) = true := decide_eq_true c27
              clear c27
              by_cases c28 : ((rd_T36 l0 x5_2).f1.f1) < 0
              ·rw [if_pos c28] at H
               have c28b0 : decide (((rd_T36 l0 x5_2).f1.f1) < 0) = true := decide_eq_true c28
               clear c28
               have H' := Aside0.mk H
               clear H
               have hnb29 := NB284_282.out
               have hnc29 := NB282_284.out
               have hcz30_0 : w14.cell? ⟨gb284, 0, none⟩ = some (.int .i64 0) := (blk_cell BK284.out 0).trans rfl
               have hcz30_1 : w14.cell? ⟨gb284, 1, none⟩ = some (.int .i64 0) := (blk_cell BK284.out 1).trans rfl
               have hcz30_2 : w14.cell? ⟨gb284, 2, none⟩ = some (.int .i64 0) := (blk_cell BK284.out 2).trans rfl
               have hcz30_3 : w14.cell? ⟨gb284, 3, none⟩ = some (.int .i64 0) := (blk_cell BK284.out 3).trans rfl
               have hfz30_0 := blk_frozen BK284.out 0
               have hfz30_1 := blk_frozen BK284.out 1
               have hfz30_2 := blk_frozen BK284.out 2
               have hfz30_3 := blk_frozen BK284.out 3
               go_wp2
               repeat (go_quiet (fail); try go_wp2)
               go_meet
               case rel => exact ⟨_, (true), (by first | rfl | (simp; done) | (simp [*]; done)), H', ⟨by have := HJ2.out; have := HK2.out; first | omega | exact Nat.le_refl _⟩, ⟨by (with_reducible repeat (first | refine blk_drewN ?_ _ | refine blk_drew ?_ | refine blk_alloc ?_ _)); refine blk_far ?_ NB282_284.out _; (with_reducible repeat (first | refine blk_drewN ?_ _ | refine blk_drew ?_ | refine blk_alloc ?_ _)); refine blk_far ?_ NB282_284.out _; (with_reducible repeat (first | refine blk_drewN ?_ _ | refine blk_drew ?_ | refine blk_alloc ?_ _)); refine blk_far ?_ NB282_284.out _; (with_reducible repeat (first | refine blk_drewN ?_ _ | refine blk_drew ?_ | refine blk_alloc ?_ _)); refine blk_far ?_ NB282_284.out _; (with_reducible repeat (first | refine blk_drewN ?_ _ | refine blk_drew ?_ | refine blk_alloc ?_ _)); exact BK282.out⟩, ⟨by (with_reducible repeat (first | refine blk_drewN ?_ _ | refine blk_drew ?_ | refine blk_alloc ?_ _)); refine blk_put (cs := #[.int .i64 ((rd_T36 l0 x5_2).f0.f0), .int .i64 ((rd_T36 l0 x5_2).f0.f1), .int .i64 ((rd_T36 l0 x5_2).f1.f0), .int .i64 0]) ?_ 3 _ rfl; (with_reducible repeat (first | refine blk_drewN ?_ _ | refine blk_drew ?_ | refine blk_alloc ?_ _)); refine blk_put (cs := #[.int .i64 ((rd_T36 l0 x5_2).f0.f0), .int .i64 ((rd_T36 l0 x5_2).f0.f1), .int .i64 0, .int .i64 0]) ?_ 2 _ rfl; (with_reducible repeat (first | refine blk_drewN ?_ _ | refine blk_drew ?_ | refine blk_alloc ?_ _)); refine blk_put (cs := #[.int .i64 ((rd_T36 l0 x5_2).f0.f0), .int .i64 0, .int .i64 0, .int .i64 0]) ?_ 1 _ rfl; (with_reducible repeat (first | refine blk_drewN ?_ _ | refine blk_drew ?_ | refine blk_alloc ?_ _)); refine blk_put (cs := #[.int .i64 0, .int .i64 0, .int .i64 0, .int .i64 0]) ?_ 0 _ rfl; (with_reducible repeat (first | refine blk_drewN ?_ _ | refine blk_drew ?_ | refine blk_alloc ?_ _)); exact BK284.out⟩, ⟨by repeat (first | (with_reducible first | exact HB.out | apply below_alloc | apply pw_below_drewN | apply below_drew1 | refine below_set ?_ GE282.out | refine below_set ?_ GE284.out) | exact HB.out)⟩⟩
              ·rw [if_neg c28] at H
               have c28b0 : decide (((rd_T36 l0 x5_2).f1.f1) < 0) = false := decide_eq_false c28
               clear c28
               by_cases c31 : (((rd_T36 l0 x5_2).f0.f0) == a1_0 && (((rd_T36 l0 x5_2).f0.f1) == a1_1)) = true
               ·rw [if_pos c31] at H
                have c31b0 : (((rd_T36 l0 x5_2).f0.f0) == a1_0 && (((rd_T36 l0 x5_2).f0.f1) == a1_1)) = true := c31
                (try (have c31b1 : decide (((rd_T36 l0 x5_2).f0.f0) = a1_0 && (((rd_T36 l0 x5_2).f0.f1) == a1_1)) = true := by simpa using c31))
                (try (have c31b2 : (((rd_T36 l0 x5_2).f0.f0) == a1_0 && (((rd_T36 l0 x5_2).f0.f1) == a1_1)) = true := by simpa using c31))
                clear c31
                have H' := Aside0.mk H
                clear H
                have hnb32 := NB284_282.out
                have hnc32 := NB282_284.out
                have hcz33_0 : w14.cell? ⟨gb284, 0, none⟩ = some (.int .i64 0) := (blk_cell BK284.out 0).trans rfl
                have hcz33_1 : w14.cell? ⟨gb284, 1, none⟩ = some (.int .i64 0) := (blk_cell BK284.out 1).trans rfl
                have hcz33_2 : w14.cell? ⟨gb284, 2, none⟩ = some (.int .i64 0) := (blk_cell BK284.out 2).trans rfl
                have hcz33_3 : w14.cell? ⟨gb284, 3, none⟩ = some (.int .i64 0) := (blk_cell BK284.out 3).trans rfl
                have hfz33_0 := blk_frozen BK284.out 0
                have hfz33_1 := blk_frozen BK284.out 1
                have hfz33_2 := blk_frozen BK284.out 2
                have hfz33_3 := blk_frozen BK284.out 3
                have hcz34_0 : w14.cell? ⟨gb282, 0, none⟩ = some (.int .i64 a1_0) := (blk_cell BK282.out 0).trans rfl
                have hcz34_1 : w14.cell? ⟨gb282, 1, none⟩ = some (.int .i64 a1_1) := (blk_cell BK282.out 1).trans rfl
                have hfz34_0 := blk_frozen BK282.out 0
                have hfz34_1 := blk_frozen BK282.out 1
                go_wp2
                repeat (go_quiet (fail); try go_wp2)
                go_meet
                case rel => exact ⟨_, (true), (by first | rfl | (simp; done) | (simp [*]; done)), H', ⟨by have := HJ2.out; have := HK2.out; first | omega | exact Nat.le_refl _⟩, ⟨by (with_reducible repeat (first | refine blk_drewN ?_ _ | refine blk_drew ?_ | refine blk_alloc ?_ _)); refine blk_far ?_ NB282_284.out _; (with_reducible repeat (first | refine blk_drewN ?_ _ | refine blk_drew ?_ | refine blk_alloc ?_ _)); refine blk_far ?_ NB282_284.out _; (with_reducible repeat (first | refine blk_drewN ?_ _ | refine blk_drew ?_ | refine blk_alloc ?_ _)); refine blk_far ?_ NB282_284.out _; (with_reducible repeat (first | refine blk_drewN ?_ _ | refine blk_drew ?_ | refine blk_alloc ?_ _)); refine blk_far ?_ NB282_284.out _; (with_reducible repeat (first | refine blk_drewN ?_ _ | refine blk_drew ?_ | refine blk_alloc ?_ _)); exact BK282.out⟩, ⟨by (with_reducible repeat (first | refine blk_drewN ?_ _ | refine blk_drew ?_ | refine blk_alloc ?_ _)); refine blk_put (cs := #[.int .i64 ((rd_T36 l0 x5_2).f0.f0), .int .i64 ((rd_T36 l0 x5_2).f0.f1), .int .i64 ((rd_T36 l0 x5_2).f1.f0), .int .i64 0]) ?_ 3 _ rfl; (with_reducible repeat (first | refine blk_drewN ?_ _ | refine blk_drew ?_ | refine blk_alloc ?_ _)); refine blk_put (cs := #[.int .i64 ((rd_T36 l0 x5_2).f0.f0), .int .i64 ((rd_T36 l0 x5_2).f0.f1), .int .i64 0, .int .i64 0]) ?_ 2 _ rfl; (with_reducible repeat (first | refine blk_drewN ?_ _ | refine blk_drew ?_ | refine blk_alloc ?_ _)); refine blk_put (cs := #[.int .i64 ((rd_T36 l0 x5_2).f0.f0), .int .i64 0, .int .i64 0, .int .i64 0]) ?_ 1 _ rfl; (with_reducible repeat (first | refine blk_drewN ?_ _ | refine blk_drew ?_ | refine blk_alloc ?_ _)); refine blk_put (cs := #[.int .i64 0, .int .i64 0, .int .i64 0, .int .i64 0]) ?_ 0 _ rfl; (with_reducible repeat (first | refine blk_drewN ?_ _ | refine blk_drew ?_ | refine blk_alloc ?_ _)); exact BK284.out⟩, ⟨by repeat (first | (with_reducible first | exact HB.out | apply below_alloc | apply pw_below_drewN | apply below_drew1 | refine below_set ?_ GE282.out | refine below_set ?_ GE284.out) | exact HB.out)⟩⟩
               ·rw [if_neg c31] at H
                have c31b0 : (((rd_T36 l0 x5_2).f0.f0) == a1_0 && (((rd_T36 l0 x5_2).f0.f1) == a1_1)) = false := by simpa using c31
                (try (have c31b1 : decide (((rd_T36 l0 x5_2).f0.f0) = a1_0 && (((rd_T36 l0 x5_2).f0.f1) == a1_1)) = false := by simpa using c31))
                (try (have c31b2 : (((rd_T36 l0 x5_2).f0.f0) == a1_0 && (((rd_T36 l0 x5_2).f0.f1) == a1_1)) = false := by simpa using c31))
                (try (have c31b3 : ¬ (((rd_T36 l0 x5_2).f0.f0) = a1_0 && (((rd_T36 l0 x5_2).f0.f1) == a1_1)) := by simpa using c31))
                clear c31
                have H' := Aside0.mk H
                clear H
                have hnb35 := NB284_282.out
                have hnc35 := NB282_284.out
                have hcz36_0 : w14.cell? ⟨gb284, 0, none⟩ = some (.int .i64 0) := (blk_cell BK284.out 0).trans rfl
                have hcz36_1 : w14.cell? ⟨gb284, 1, none⟩ = some (.int .i64 0) := (blk_cell BK284.out 1).trans rfl
                have hcz36_2 : w14.cell? ⟨gb284, 2, none⟩ = some (.int .i64 0) := (blk_cell BK284.out 2).trans rfl
                have hcz36_3 : w14.cell? ⟨gb284, 3, none⟩ = some (.int .i64 0) := (blk_cell BK284.out 3).trans rfl
                have hfz36_0 := blk_frozen BK284.out 0
                have hfz36_1 := blk_frozen BK284.out 1
                have hfz36_2 := blk_frozen BK284.out 2
                have hfz36_3 := blk_frozen BK284.out 3
                have hcz37_0 : w14.cell? ⟨gb282, 0, none⟩ = some (.int .i64 a1_0) := (blk_cell BK282.out 0).trans rfl
                have hcz37_1 : w14.cell? ⟨gb282, 1, none⟩ = some (.int .i64 a1_1) := (blk_cell BK282.out 1).trans rfl
                have hfz37_0 := blk_frozen BK282.out 0
                have hfz37_1 := blk_frozen BK282.out 1
                go_wp2
                repeat (go_quiet (fail); try go_wp2)
                go_meet
                case rel => exact ⟨_, ((((rd_T36 l0 x5_2).f1.f0) == a1_0 && (((rd_T36 l0 x5_2).f1.f1) == a1_1))), (by first | rfl | (simp; done) | (simp [*]; done)), H', ⟨by have := HJ2.out; have := HK2.out; first | omega | exact Nat.le_refl _⟩, ⟨by (with_reducible repeat (first | refine blk_drewN ?_ _ | refine blk_drew ?_ | refine blk_alloc ?_ _)); refine blk_far ?_ NB282_284.out _; (with_reducible repeat (first | refine blk_drewN ?_ _ | refine blk_drew ?_ | refine blk_alloc ?_ _)); refine blk_far ?_ NB282_284.out _; (with_reducible repeat (first | refine blk_drewN ?_ _ | refine blk_drew ?_ | refine blk_alloc ?_ _)); refine blk_far ?_ NB282_284.out _; (with_reducible repeat (first | refine blk_drewN ?_ _ | refine blk_drew ?_ | refine blk_alloc ?_ _)); refine blk_far ?_ NB282_284.out _; (with_reducible repeat (first | refine blk_drewN ?_ _ | refine blk_drew ?_ | refine blk_alloc ?_ _)); exact BK282.out⟩, ⟨by (with_reducible repeat (first | refine blk_drewN ?_ _ | refine blk_drew ?_ | refine blk_alloc ?_ _)); refine blk_put (cs := #[.int .i64 ((rd_T36 l0 x5_2).f0.f0), .int .i64 ((rd_T36 l0 x5_2).f0.f1), .int .i64 ((rd_T36 l0 x5_2).f1.f0), .int .i64 0]) ?_ 3 _ rfl; (with_reducible repeat (first | refine blk_drewN ?_ _ | refine blk_drew ?_ | refine blk_alloc ?_ _)); refine blk_put (cs := #[.int .i64 ((rd_T36 l0 x5_2).f0.f0), .int .i64 ((rd_T36 l0 x5_2).f0.f1), .int .i64 0, .int .i64 0]) ?_ 2 _ rfl; (with_reducible repeat (first | refine blk_drewN ?_ _ | refine blk_drew ?_ | refine blk_alloc ?_ _)); refine blk_put (cs := #[.int .i64 ((rd_T36 l0 x5_2).f0.f0), .int .i64 0, .int .i64 0, .int .i64 0]) ?_ 1 _ rfl; (with_reducible repeat (first | refine blk_drewN ?_ _ | refine blk_drew ?_ | refine blk_alloc ?_ _)); refine blk_put (cs := #[.int .i64 0, .int .i64 0, .int .i64 0, .int .i64 0]) ?_ 0 _ rfl; (with_reducible repeat (first | refine blk_drewN ?_ _ | refine blk_drew ?_ | refine blk_alloc ?_ _)); exact BK284.out⟩, ⟨by repeat (first | (with_reducible first | exact HB.out | apply below_alloc | apply pw_below_drewN | apply below_drew1 | refine below_set ?_ GE282.out | refine below_set ?_ GE284.out) | exact HB.out)⟩⟩
             ·rw [if_neg c27] at H
              have c27b0 : decide (((rd_T36 l0 x5_2).f1.f0) < 3) = false := decide_eq_false c27
              clear c27
              by_cases c38 : (((rd_T36 l0 x5_2).f0.f0) == a1_0 && (((rd_T36 l0 x5_2).f0.f1) == a1_1)) = true
              ·rw [if_pos c38] at H
               have c38b0 : (((rd_T36 l0 x5_2).f0.f0) == a1_0 && (((rd_T36 l0 x5_2).f0.f1) == a1_1)) = true := c38
               (try (have c38b1 : decide (((rd_T36 l0 x5_2).f0.f0) = a1_0 && (((rd_T36 l0 x5_2).f0.f1) == a1_1)) = true := by simpa using c38))
               (try (have c38b2 : (((rd_T36 l0 x5_2).f0.f0) == a1_0 && (((rd_T36 l0 x5_2).f0.f1) == a1_1)) = true := by simpa using c38))
               clear c38
               have H' := Aside0.mk H
               clear H
               have hnb39 := NB284_282.out
               have hnc39 := NB282_284.out
               have hcz40_0 : w14.cell? ⟨gb284, 0, none⟩ = some (.int .i64 0) := (blk_cell BK284.out 0).trans rfl
               have hcz40_1 : w14.cell? ⟨gb284, 1, none⟩ = some (.int .i64 0) := (blk_cell BK284.out 1).trans rfl
               have hcz40_2 : w14.cell? ⟨gb284, 2, none⟩ = some (.int .i64 0) := (blk_cell BK284.out 2).trans rfl
               have hcz40_3 : w14.cell? ⟨gb284, 3, none⟩ = some (.int .i64 0) := (blk_cell BK284.out 3).trans rfl
               have hfz40_0 := blk_frozen BK284.out 0
               have hfz40_1 := blk_frozen BK284.out 1
               have hfz40_2 := blk_frozen BK284.out 2
               have hfz40_3 := blk_frozen BK284.out 3
               have hcz41_0 : w14.cell? ⟨gb282, 0, none⟩ = some (.int .i64 a1_0) := (blk_cell BK282.out 0).trans rfl
               have hcz41_1 : w14.cell? ⟨gb282, 1, none⟩ = some (.int .i64 a1_1) := (blk_cell BK282.out 1).trans rfl
               have hfz41_0 := blk_frozen BK282.out 0
               have hfz41_1 := blk_frozen BK282.out 1
               go_wp2
               repeat (go_quiet (fail); try go_wp2)
               go_meet
               case rel => exact ⟨_, (true), (by first | rfl | (simp; done) | (simp [*]; done)), H', ⟨by have := HJ2.out; have := HK2.out; first | omega | exact Nat.le_refl _⟩, ⟨by (with_reducible repeat (first | refine blk_drewN ?_ _ | refine blk_drew ?_ | refine blk_alloc ?_ _)); refine blk_far ?_ NB282_284.out _; (with_reducible repeat (first | refine blk_drewN ?_ _ | refine blk_drew ?_ | refine blk_alloc ?_ _)); refine blk_far ?_ NB282_284.out _; (with_reducible repeat (first | refine blk_drewN ?_ _ | refine blk_drew ?_ | refine blk_alloc ?_ _)); refine blk_far ?_ NB282_284.out _; (with_reducible repeat (first | refine blk_drewN ?_ _ | refine blk_drew ?_ | refine blk_alloc ?_ _)); refine blk_far ?_ NB282_284.out _; (with_reducible repeat (first | refine blk_drewN ?_ _ | refine blk_drew ?_ | refine blk_alloc ?_ _)); exact BK282.out⟩, ⟨by (with_reducible repeat (first | refine blk_drewN ?_ _ | refine blk_drew ?_ | refine blk_alloc ?_ _)); refine blk_put (cs := #[.int .i64 ((rd_T36 l0 x5_2).f0.f0), .int .i64 ((rd_T36 l0 x5_2).f0.f1), .int .i64 ((rd_T36 l0 x5_2).f1.f0), .int .i64 0]) ?_ 3 _ rfl; (with_reducible repeat (first | refine blk_drewN ?_ _ | refine blk_drew ?_ | refine blk_alloc ?_ _)); refine blk_put (cs := #[.int .i64 ((rd_T36 l0 x5_2).f0.f0), .int .i64 ((rd_T36 l0 x5_2).f0.f1), .int .i64 0, .int .i64 0]) ?_ 2 _ rfl; (with_reducible repeat (first | refine blk_drewN ?_ _ | refine blk_drew ?_ | refine blk_alloc ?_ _)); refine blk_put (cs := #[.int .i64 ((rd_T36 l0 x5_2).f0.f0), .int .i64 0, .int .i64 0, .int .i64 0]) ?_ 1 _ rfl; (with_reducible repeat (first | refine blk_drewN ?_ _ | refine blk_drew ?_ | refine blk_alloc ?_ _)); refine blk_put (cs := #[.int .i64 0, .int .i64 0, .int .i64 0, .int .i64 0]) ?_ 0 _ rfl; (with_reducible repeat (first | refine blk_drewN ?_ _ | refine blk_drew ?_ | refine blk_alloc ?_ _)); exact BK284.out⟩, ⟨by repeat (first | (with_reducible first | exact HB.out | apply below_alloc | apply pw_below_drewN | apply below_drew1 | refine below_set ?_ GE282.out | refine below_set ?_ GE284.out) | exact HB.out)⟩⟩
              ·rw [if_neg c38] at H
               have c38b0 : (((rd_T36 l0 x5_2).f0.f0) == a1_0 && (((rd_T36 l0 x5_2).f0.f1) == a1_1)) = false := by simpa using c38
               (try (have c38b1 : decide (((rd_T36 l0 x5_2).f0.f0) = a1_0 && (((rd_T36 l0 x5_2).f0.f1) == a1_1)) = false := by simpa using c38))
               (try (have c38b2 : (((rd_T36 l0 x5_2).f0.f0) == a1_0 && (((rd_T36 l0 x5_2).f0.f1) == a1_1)) = false := by simpa using c38))
               (try (have c38b3 : ¬ (((rd_T36 l0 x5_2).f0.f0) = a1_0 && (((rd_T36 l0 x5_2).f0.f1) == a1_1)) := by simpa using c38))
               clear c38
               have H' := Aside0.mk H
               clear H
               have hnb42 := NB284_282.out
               have hnc42 := NB282_284.out
               have hcz43_0 : w14.cell? ⟨gb284, 0, none⟩ = some (.int .i64 0) := (blk_cell BK284.out 0).trans rfl
               have hcz43_1 : w14.cell? ⟨gb284, 1, none⟩ = some (.int .i64 0) := (blk_cell BK284.out 1).trans rfl
               have hcz43_2 : w14.cell? ⟨gb284, 2, none⟩ = some (.int .i64 0) := (blk_cell BK284.out 2).trans rfl
               have hcz43_3 : w14.cell? ⟨gb284, 3, none⟩ = some (.int .i64 0) := (blk_cell BK284.out 3).trans rfl
               have hfz43_0 := blk_frozen BK284.out 0
               have hfz43_1 := blk_frozen BK284.out 1
               have hfz43_2 := blk_frozen BK284.out 2
               have hfz43_3 := blk_frozen BK284.out 3
               have hcz44_0 : w14.cell? ⟨gb282, 0, none⟩ = some (.int .i64 a1_0) := (blk_cell BK282.out 0).trans rfl
               have hcz44_1 : w14.cell? ⟨gb282, 1, none⟩ = some (.int .i64 a1_1) := (blk_cell BK282.out 1).trans rfl
               have hfz44_0 := blk_frozen BK282.out 0
               have hfz44_1 := blk_frozen BK282.out 1
               go_wp2
               repeat (go_quiet (fail); try go_wp2)
               go_meet
               case rel => exact ⟨_, ((((rd_T36 l0 x5_2).f1.f0) == a1_0 && (((rd_T36 l0 x5_2).f1.f1) == a1_1))), (by first | rfl | (simp; done) | (simp [*]; done)), H', ⟨by have := HJ2.out; have := HK2.out; first | omega | exact Nat.le_refl _⟩, ⟨by (with_reducible repeat (first | refine blk_drewN ?_ _ | refine blk_drew ?_ | refine blk_alloc ?_ _)); refine blk_far ?_ NB282_284.out _; (with_reducible repeat (first | refine blk_drewN ?_ _ | refine blk_drew ?_ | refine blk_alloc ?_ _)); refine blk_far ?_ NB282_284.out _; (with_reducible repeat (first | refine blk_drewN ?_ _ | refine blk_drew ?_ | refine blk_alloc ?_ _)); refine blk_far ?_ NB282_284.out _; (with_reducible repeat (first | refine blk_drewN ?_ _ | refine blk_drew ?_ | refine blk_alloc ?_ _)); refine blk_far ?_ NB282_284.out _; (with_reducible repeat (first | refine blk_drewN ?_ _ | refine blk_drew ?_ | refine blk_alloc ?_ _)); exact BK282.out⟩, ⟨by (with_reducible repeat (first | refine blk_drewN ?_ _ | refine blk_drew ?_ | refine blk_alloc ?_ _)); refine blk_put (cs := #[.int .i64 ((rd_T36 l0 x5_2).f0.f0), .int .i64 ((rd_T36 l0 x5_2).f0.f1), .int .i64 ((rd_T36 l0 x5_2).f1.f0), .int .i64 0]) ?_ 3 _ rfl; (with_reducible repeat (first | refine blk_drewN ?_ _ | refine blk_drew ?_ | refine blk_alloc ?_ _)); refine blk_put (cs := #[.int .i64 ((rd_T36 l0 x5_2).f0.f0), .int .i64 ((rd_T36 l0 x5_2).f0.f1), .int .i64 0, .int .i64 0]) ?_ 2 _ rfl; (with_reducible repeat (first | refine blk_drewN ?_ _ | refine blk_drew ?_ | refine blk_alloc ?_ _)); refine blk_put (cs := #[.int .i64 ((rd_T36 l0 x5_2).f0.f0), .int .i64 0, .int .i64 0, .int .i64 0]) ?_ 1 _ rfl; (with_reducible repeat (first | refine blk_drewN ?_ _ | refine blk_drew ?_ | refine blk_alloc ?_ _)); refine blk_put (cs := #[.int .i64 0, .int .i64 0, .int .i64 0, .int .i64 0]) ?_ 0 _ rfl; (with_reducible repeat (first | refine blk_drewN ?_ _ | refine blk_drew ?_ | refine blk_alloc ?_ _)); exact BK284.out⟩, ⟨by repeat (first | (with_reducible first | exact HB.out | apply below_alloc | apply pw_below_drewN | apply below_drew1 | refine below_set ?_ GE282.out | refine below_set ?_ GE284.out) | exact HB.out)⟩⟩
         ·rw [if_neg c17] at H
          have c17b0 : (((rd_T36 l0 x5_2).f0.f0) == 1) = false := beq_eq_false_iff_ne.mpr c17
          have c17b1 : (((rd_T36 l0 x5_2).f0.f0) != 1) = true := bne_iff_ne.mpr c17
          (first | rw [c17b0] | (simp only [i64_w, i32_w]; rw [c17b0]) | skip)
          by_cases c45 : ((rd_T36 l0 x5_2).f0.f0) = 2
          ·rw [if_pos c45] at H
           have c45b0 : (((rd_T36 l0 x5_2).f0.f0) == 2) = true := beq_iff_eq.mpr c45
           have c45b1 : (((rd_T36 l0 x5_2).f0.f0) != 2) = false := bne_eq_false_iff_eq.mpr c45
           clear c45
           by_cases c46 : ((rd_T36 l0 x5_2).f0.f1) < 0
           ·rw [if_pos c46] at H
            have c46b0 : decide (((rd_T36 l0 x5_2).f0.f1) < 0) = true := decide_eq_true c46
            clear c46
            have H' := Aside0.mk H
            clear H
            have hnb47 := NB284_282.out
            have hnc47 := NB282_284.out
            have hcz48_0 : w14.cell? ⟨gb284, 0, none⟩ = some (.int .i64 0) := (blk_cell BK284.out 0).trans rfl
            have hcz48_1 : w14.cell? ⟨gb284, 1, none⟩ = some (.int .i64 0) := (blk_cell BK284.out 1).trans rfl
            have hcz48_2 : w14.cell? ⟨gb284, 2, none⟩ = some (.int .i64 0) := (blk_cell BK284.out 2).trans rfl
            have hcz48_3 : w14.cell? ⟨gb284, 3, none⟩ = some (.int .i64 0) := (blk_cell BK284.out 3).trans rfl
            have hfz48_0 := blk_frozen BK284.out 0
            have hfz48_1 := blk_frozen BK284.out 1
            have hfz48_2 := blk_frozen BK284.out 2
            have hfz48_3 := blk_frozen BK284.out 3
            go_wp2
            repeat (go_quiet (fail); try go_wp2)
            go_meet
            case rel => exact ⟨_, (true), (by first | rfl | (simp; done) | (simp [*]; done)), H', ⟨by have := HJ2.out; have := HK2.out; first | omega | exact Nat.le_refl _⟩, ⟨by (with_reducible repeat (first | refine blk_drewN ?_ _ | refine blk_drew ?_ | refine blk_alloc ?_ _)); refine blk_far ?_ NB282_284.out _; (with_reducible repeat (first | refine blk_drewN ?_ _ | refine blk_drew ?_ | refine blk_alloc ?_ _)); refine blk_far ?_ NB282_284.out _; (with_reducible repeat (first | refine blk_drewN ?_ _ | refine blk_drew ?_ | refine blk_alloc ?_ _)); refine blk_far ?_ NB282_284.out _; (with_reducible repeat (first | refine blk_drewN ?_ _ | refine blk_drew ?_ | refine blk_alloc ?_ _)); refine blk_far ?_ NB282_284.out _; (with_reducible repeat (first | refine blk_drewN ?_ _ | refine blk_drew ?_ | refine blk_alloc ?_ _)); exact BK282.out⟩, ⟨by (with_reducible repeat (first | refine blk_drewN ?_ _ | refine blk_drew ?_ | refine blk_alloc ?_ _)); refine blk_put (cs := #[.int .i64 ((rd_T36 l0 x5_2).f0.f0), .int .i64 ((rd_T36 l0 x5_2).f0.f1), .int .i64 ((rd_T36 l0 x5_2).f1.f0), .int .i64 0]) ?_ 3 _ rfl; (with_reducible repeat (first | refine blk_drewN ?_ _ | refine blk_drew ?_ | refine blk_alloc ?_ _)); refine blk_put (cs := #[.int .i64 ((rd_T36 l0 x5_2).f0.f0), .int .i64 ((rd_T36 l0 x5_2).f0.f1), .int .i64 0, .int .i64 0]) ?_ 2 _ rfl; (with_reducible repeat (first | refine blk_drewN ?_ _ | refine blk_drew ?_ | refine blk_alloc ?_ _)); refine blk_put (cs := #[.int .i64 ((rd_T36 l0 x5_2).f0.f0), .int .i64 0, .int .i64 0, .int .i64 0]) ?_ 1 _ rfl; (with_reducible repeat (first | refine blk_drewN ?_ _ | refine blk_drew ?_ | refine blk_alloc ?_ _)); refine blk_put (cs := #[.int .i64 0, .int .i64 0, .int .i64 0, .int .i64 0]) ?_ 0 _ rfl; (with_reducible repeat (first | refine blk_drewN ?_ _ | refine blk_drew ?_ | refine blk_alloc ?_ _)); exact BK284.out⟩, ⟨by repeat (first | (with_reducible first | exact HB.out | apply below_alloc | apply pw_below_drewN | apply below_drew1 | refine below_set ?_ GE282.out | refine below_set ?_ GE284.out) | exact HB.out)⟩⟩
           ·rw [if_neg c46] at H
            have c46b0 : decide (((rd_T36 l0 x5_2).f0.f1) < 0) = false := decide_eq_false c46
            clear c46
            by_cases c49 : ((rd_T36 l0 x5_2).f1.f0) < 1
            ·rw [if_pos c49] at H
             have c49b0 : decide (((rd_T36 l0 x5_2).f1.f0) < 1) = true := decide_eq_true c49
             clear c49
             have H' := Aside0.mk H
             clear H
             have hnb50 := NB284_282.out
             have hnc50 := NB282_284.out
             have hcz51_0 : w14.cell? ⟨gb284, 0, none⟩ = some (.int .i64 0) := (blk_cell BK284.out 0).trans rfl
             have hcz51_1 : w14.cell? ⟨gb284, 1, none⟩ = some (.int .i64 0) := (blk_cell BK284.out 1).trans rfl
             have hcz51_2 : w14.cell? ⟨gb284, 2, none⟩ = some (.int .i64 0) := (blk_cell BK284.out 2).trans rfl
             have hcz51_3 : w14.cell? ⟨gb284, 3, none⟩ = some (.int .i64 0) := (blk_cell BK284.out 3).trans rfl
             have hfz51_0 := blk_frozen BK284.out 0
             have hfz51_1 := blk_frozen BK284.out 1
             have hfz51_2 := blk_frozen BK284.out 2
             have hfz51_3 := blk_frozen BK284.out 3
             go_wp2
             repeat (go_quiet (fail); try go_wp2)
             go_meet
             case rel => exact ⟨_, (true), (by first | rfl | (simp; done) | (simp [*]; done)), H', ⟨by have := HJ2.out; have := HK2.out; first | omega | exact Nat.le_refl _⟩, ⟨by (with_reducible repeat (first | refine blk_drewN ?_ _ | refine blk_drew ?_ | refine blk_alloc ?_ _)); refine blk_far ?_ NB282_284.out _; (with_reducible repeat (first | refine blk_drewN ?_ _ | refine blk_drew ?_ | refine blk_alloc ?_ _)); refine blk_far ?_ NB282_284.out _; (with_reducible repeat (first | refine blk_drewN ?_ _ | refine blk_drew ?_ | refine blk_alloc ?_ _)); refine blk_far ?_ NB282_284.out _; (with_reducible repeat (first | refine blk_drewN ?_ _ | refine blk_drew ?_ | refine blk_alloc ?_ _)); refine blk_far ?_ NB282_284.out _; (with_reducible repeat (first | refine blk_drewN ?_ _ | refine blk_drew ?_ | refine blk_alloc ?_ _)); exact BK282.out⟩, ⟨by (with_reducible repeat (first | refine blk_drewN ?_ _ | refine blk_drew ?_ | refine blk_alloc ?_ _)); refine blk_put (cs := #[.int .i64 ((rd_T36 l0 x5_2).f0.f0), .int .i64 ((rd_T36 l0 x5_2).f0.f1), .int .i64 ((rd_T36 l0 x5_2).f1.f0), .int .i64 0]) ?_ 3 _ rfl; (with_reducible repeat (first | refine blk_drewN ?_ _ | refine blk_drew ?_ | refine blk_alloc ?_ _)); refine blk_put (cs := #[.int .i64 ((rd_T36 l0 x5_2).f0.f0), .int .i64 ((rd_T36 l0 x5_2).f0.f1), .int .i64 0, .int .i64 0]) ?_ 2 _ rfl; (with_reducible repeat (first | refine blk_drewN ?_ _ | refine blk_drew ?_ | refine blk_alloc ?_ _)); refine blk_put (cs := #[.int .i64 ((rd_T36 l0 x5_2).f0.f0), .int .i64 0, .int .i64 0, .int .i64 0]) ?_ 1 _ rfl; (with_reducible repeat (first | refine blk_drewN ?_ _ | refine blk_drew ?_ | refine blk_alloc ?_ _)); refine blk_put (cs := #[.int .i64 0, .int .i64 0, .int .i64 0, .int .i64 0]) ?_ 0 _ rfl; (with_reducible repeat (first | refine blk_drewN ?_ _ | refine blk_drew ?_ | refine blk_alloc ?_ _)); exact BK284.out⟩, ⟨by repeat (first | (with_reducible first | exact HB.out | apply below_alloc | apply pw_below_drewN | apply below_drew1 | refine below_set ?_ GE282.out | refine below_set ?_ GE284.out) | exact HB.out)⟩⟩
            ·rw [if_neg c49] at H
             have c49b0 : decide (((rd_T36 l0 x5_2).f1.f0) < 1) = false := decide_eq_false c49
             clear c49
             by_cases c52 : ((rd_T36 l0 x5_2).f1.f0) > 3
             ·rw [if_pos c52] at H
              have c52b0 : decide (3 < ((rd_T36 l0 x5_2).f1.f0)) = true := decide_eq_true c52
              clear c52
              have H' := Aside0.mk H
              clear H
              have hnb53 := NB284_282.out
              have hnc53 := NB282_284.out
              have hcz54_0 : w14.cell? ⟨gb284, 0, none⟩ = some (.int .i64 0) := (blk_cell BK284.out 0).trans rfl
              have hcz54_1 : w14.cell? ⟨gb284, 1, none⟩ = some (.int .i64 0) := (blk_cell BK284.out 1).trans rfl
              have hcz54_2 : w14.cell? ⟨gb284, 2, none⟩ = some (.int .i64 0) := (blk_cell BK284.out 2).trans rfl
              have hcz54_3 : w14.cell? ⟨gb284, 3, none⟩ = some (.int .i64 0) := (blk_cell BK284.out 3).trans rfl
              have hfz54_0 := blk_frozen BK284.out 0
              have hfz54_1 := blk_frozen BK284.out 1
              have hfz54_2 := blk_frozen BK284.out 2
              have hfz54_3 := blk_frozen BK284.out 3
              go_wp2
              repeat (go_quiet (fail); try go_wp2)
              go_meet
              case rel => exact ⟨_, (true), (by first | rfl | (simp; done) | (simp [*]; done)), H', ⟨by have := HJ2.out; have := HK2.out; first | omega | exact Nat.le_refl _⟩, ⟨by (with_reducible repeat (first | refine blk_drewN ?_ _ | refine blk_drew ?_ | refine blk_alloc ?_ _)); refine blk_far ?_ NB282_284.out _; (with_reducible repeat (first | refine blk_drewN ?_ _ | refine blk_drew ?_ | refine blk_alloc ?_ _)); refine blk_far ?_ NB282_284.out _; (with_reducible repeat (first | refine blk_drewN ?_ _ | refine blk_drew ?_ | refine blk_alloc ?_ _)); refine blk_far ?_ NB282_284.out _; (with_reducible repeat (first | refine blk_drewN ?_ _ | refine blk_drew ?_ | refine blk_alloc ?_ _)); refine blk_far ?_ NB282_284.out _; (with_reducible repeat (first | refine blk_drewN ?_ _ | refine blk_drew ?_ | refine blk_alloc ?_ _)); exact BK282.out⟩, ⟨by (with_reducible repeat (first | refine blk_drewN ?_ _ | refine blk_drew ?_ | refine blk_alloc ?_ _)); refine blk_put (cs := #[.int .i64 ((rd_T36 l0 x5_2).f0.f0), .int .i64 ((rd_T36 l0 x5_2).f0.f1), .int .i64 ((rd_T36 l0 x5_2).f1.f0), .int .i64 0]) ?_ 3 _ rfl; (with_reducible repeat (first | refine blk_drewN ?_ _ | refine blk_drew ?_ | refine blk_alloc ?_ _)); refine blk_put (cs := #[.int .i64 ((rd_T36 l0 x5_2).f0.f0), .int .i64 ((rd_T36 l0 x5_2).f0.f1), .int .i64 0, .int .i64 0]) ?_ 2 _ rfl; (with_reducible repeat (first | refine blk_drewN ?_ _ | refine blk_drew ?_ | refine blk_alloc ?_ _)); refine blk_put (cs := #[.int .i64 ((rd_T36 l0 x5_2).f0.f0), .int .i64 0, .int .i64 0, .int .i64 0]) ?_ 1 _ rfl; (with_reducible repeat (first | refine blk_drewN ?_ _ | refine blk_drew ?_ | refine blk_alloc ?_ _)); refine blk_put (cs := #[.int .i64 0, .int .i64 0, .int .i64 0, .int .i64 0]) ?_ 0 _ rfl; (with_reducible repeat (first | refine blk_drewN ?_ _ | refine blk_drew ?_ | refine blk_alloc ?_ _)); exact BK284.out⟩, ⟨by repeat (first | (with_reducible first | exact HB.out | apply below_alloc | apply pw_below_drewN | apply below_drew1 | refine below_set ?_ GE282.out | refine below_set ?_ GE284.out) | exact HB.out)⟩⟩
             ·rw [if_neg c52] at H
              have c52b0 : decide (3 < ((rd_T36 l0 x5_2).f1.f0)) = false := decide_eq_false c52
              clear c52
              by_cases c55 : ((rd_T36 l0 x5_2).f1.f0) < 3
              ·rw [if_pos c55] at H
               have c55b0 : decide (((rd_T36 l0 x5_2).f1.f0) < 3) = true := decide_eq_true c55
               clear c55
               by_cases c56 : ((rd_T36 l0 x5_2).f1.f1) < 0
               ·rw [if_pos c56] at H
                have c56b0 : decide (((rd_T36 l0 x5_2).f1.f1) < 0) = true := decide_eq_true c56
                clear c56
                have H' := Aside0.mk H
                clear H
                have hnb57 := NB284_282.out
                have hnc57 := NB282_284.out
                have hcz58_0 : w14.cell? ⟨gb284, 0, none⟩ = some (.int .i64 0) := (blk_cell BK284.out 0).trans rfl
                have hcz58_1 : w14.cell? ⟨gb284, 1, none⟩ = some (.int .i64 0) := (blk_cell BK284.out 1).trans rfl
                have hcz58_2 : w14.cell? ⟨gb284, 2, none⟩ = some (.int .i64 0) := (blk_cell BK284.out 2).trans rfl
                have hcz58_3 : w14.cell? ⟨gb284, 3, none⟩ = some (.int .i64 0) := (blk_cell BK284.out 3).trans rfl
                have hfz58_0 := blk_frozen BK284.out 0
                have hfz58_1 := blk_frozen BK284.out 1
                have hfz58_2 := blk_frozen BK284.out 2
                have hfz58_3 := blk_frozen BK284.out 3
                go_wp2
                repeat (go_quiet (fail); try go_wp2)
                go_meet
                case rel => exact ⟨_, (true), (by first | rfl | (simp; done) | (simp [*]; done)), H', ⟨by have := HJ2.out; have := HK2.out; first | omega | exact Nat.le_refl _⟩, ⟨by (with_reducible repeat (first | refine blk_drewN ?_ _ | refine blk_drew ?_ | refine blk_alloc ?_ _)); refine blk_far ?_ NB282_284.out _; (with_reducible repeat (first | refine blk_drewN ?_ _ | refine blk_drew ?_ | refine blk_alloc ?_ _)); refine blk_far ?_ NB282_284.out _; (with_reducible repeat (first | refine blk_drewN ?_ _ | refine blk_drew ?_ | refine blk_alloc ?_ _)); refine blk_far ?_ NB282_284.out _; (with_reducible repeat (first | refine blk_drewN ?_ _ | refine blk_drew ?_ | refine blk_alloc ?_ _)); refine blk_far ?_ NB282_284.out _; (with_reducible repeat (first | refine blk_drewN ?_ _ | refine blk_drew ?_ | refine blk_alloc ?_ _)); exact BK282.out⟩, ⟨by (with_reducible repeat (first | refine blk_drewN ?_ _ | refine blk_drew ?_ | refine blk_alloc ?_ _)); refine blk_put (cs := #[.int .i64 ((rd_T36 l0 x5_2).f0.f0), .int .i64 ((rd_T36 l0 x5_2).f0.f1), .int .i64 ((rd_T36 l0 x5_2).f1.f0), .int .i64 0]) ?_ 3 _ rfl; (with_reducible repeat (first | refine blk_drewN ?_ _ | refine blk_drew ?_ | refine blk_alloc ?_ _)); refine blk_put (cs := #[.int .i64 ((rd_T36 l0 x5_2).f0.f0), .int .i64 ((rd_T36 l0 x5_2).f0.f1), .int .i64 0, .int .i64 0]) ?_ 2 _ rfl; (with_reducible repeat (first | refine blk_drewN ?_ _ | refine blk_drew ?_ | refine blk_alloc ?_ _)); refine blk_put (cs := #[.int .i64 ((rd_T36 l0 x5_2).f0.f0), .int .i64 0, .int .i64 0, .int .i64 0]) ?_ 1 _ rfl; (with_reducible repeat (first | refine blk_drewN ?_ _ | refine blk_drew ?_ | refine blk_alloc ?_ _)); refine blk_put (cs := #[.int .i64 0, .int .i64 0, .int .i64 0, .int .i64 0]) ?_ 0 _ rfl; (with_reducible repeat (first | refine blk_drewN ?_ _ | refine blk_drew ?_ | refine blk_alloc ?_ _)); exact BK284.out⟩, ⟨by repeat (first | (with_reducible first | exact HB.out | apply below_alloc | apply pw_below_drewN | apply below_drew1 | refine below_set ?_ GE282.out | refine below_set ?_ GE284.out) | exact HB.out)⟩⟩
               ·rw [if_neg c56] at H
                have c56b0 : decide (((rd_T36 l0 x5_2).f1.f1) < 0) = false := decide_eq_false c56
                clear c56
                by_cases c59 : (((rd_T36 l0 x5_2).f0.f0) == a1_0 && (((rd_T36 l0 x5_2).f0.f1) == a1_1)) = true
                ·rw [if_pos c59] at H
                 have c59b0 : (((rd_T36 l0 x5_2).f0.f0) == a1_0 && (((rd_T36 l0 x5_2).f0.f1) == a1_1)) = true := c59
                 (try (have c59b1 : decide (((rd_T36 l0 x5_2).f0.f0) = a1_0 && (((rd_T36 l0 x5_2).f0.f1) == a1_1)) = true := by simpa using c59))
                 (try (have c59b2 : (((rd_T36 l0 x5_2).f0.f0) == a1_0 && (((rd_T36 l0 x5_2).f0.f1) == a1_1)) = true := by simpa using c59))
                 clear c59
                 have H' := Aside0.mk H
                 clear H
                 have hnb60 := NB284_282.out
                 have hnc60 := NB282_284.out
                 have hcz61_0 : w14.cell? ⟨gb284, 0, none⟩ = some (.int .i64 0) := (blk_cell BK284.out 0).trans rfl
                 have hcz61_1 : w14.cell? ⟨gb284, 1, none⟩ = some (.int .i64 0) := (blk_cell BK284.out 1).trans rfl
                 have hcz61_2 : w14.cell? ⟨gb284, 2, none⟩ = some (.int .i64 0) := (blk_cell BK284.out 2).trans rfl
                 have hcz61_3 : w14.cell? ⟨gb284, 3, none⟩ = some (.int .i64 0) := (blk_cell BK284.out 3).trans rfl
                 have hfz61_0 := blk_frozen BK284.out 0
                 have hfz61_1 := blk_frozen BK284.out 1
                 have hfz61_2 := blk_frozen BK284.out 2
                 have hfz61_3 := blk_frozen BK284.out 3
                 have hcz62_0 : w14.cell? ⟨gb282, 0, none⟩ = some (.int .i64 a1_0) := (blk_cell BK282.out 0).trans rfl
                 have hcz62_1 : w14.cell? ⟨gb282, 1, none⟩ = some (.int .i64 a1_1) := (blk_cell BK282.out 1).trans rfl
                 have hfz62_0 := blk_frozen BK282.out 0
                 have hfz62_1 := blk_frozen BK282.out 1
                 go_wp2
                 repeat (go_quiet (fail); try go_wp2)
                 go_meet
                 case rel => exact ⟨_, (true), (by first | rfl | (simp; done) | (simp [*]; done)), H', ⟨by have := HJ2.out; have := HK2.out; first | omega | exact Nat.le_refl _⟩, ⟨by (with_reducible repeat (first | refine blk_drewN ?_ _ | refine blk_drew ?_ | refine blk_alloc ?_ _)); refine blk_far ?_ NB282_284.out _; (with_reducible repeat (first | refine blk_drewN ?_ _ | refine blk_drew ?_ | refine blk_alloc ?_ _)); refine blk_far ?_ NB282_284.out _; (with_reducible repeat (first | refine blk_drewN ?_ _ | refine blk_drew ?_ | refine blk_alloc ?_ _)); refine blk_far ?_ NB282_284.out _; (with_reducible repeat (first | refine blk_drewN ?_ _ | refine blk_drew ?_ | refine blk_alloc ?_ _)); refine blk_far ?_ NB282_284.out _; (with_reducible repeat (first | refine blk_drewN ?_ _ | refine blk_drew ?_ | refine blk_alloc ?_ _)); exact BK282.out⟩, ⟨by (with_reducible repeat (first | refine blk_drewN ?_ _ | refine blk_drew ?_ | refine blk_alloc ?_ _)); refine blk_put (cs := #[.int .i64 ((rd_T36 l0 x5_2).f0.f0), .int .i64 ((rd_T36 l0 x5_2).f0.f1), .int .i64 ((rd_T36 l0 x5_2).f1.f0), .int .i64 0]) ?_ 3 _ rfl; (with_reducible repeat (first | refine blk_drewN ?_ _ | refine blk_drew ?_ | refine blk_alloc ?_ _)); refine blk_put (cs := #[.int .i64 ((rd_T36 l0 x5_2).f0.f0), .int .i64 ((rd_T36 l0 x5_2).f0.f1), .int .i64 0, .int .i64 0]) ?_ 2 _ rfl; (with_reducible repeat (first | refine blk_drewN ?_ _ | refine blk_drew ?_ | refine blk_alloc ?_ _)); refine blk_put (cs := #[.int .i64 ((rd_T36 l0 x5_2).f0.f0), .int .i64 0, .int .i64 0, .int .i64 0]) ?_ 1 _ rfl; (with_reducible repeat (first | refine blk_drewN ?_ _ | refine blk_drew ?_ | refine blk_alloc ?_ _)); refine blk_put (cs := #[.int .i64 0, .int .i64 0, .int .i64 0, .int .i64 0]) ?_ 0 _ rfl; (with_reducible repeat (first | refine blk_drewN ?_ _ | refine blk_drew ?_ | refine blk_alloc ?_ _)); exact BK284.out⟩, ⟨by repeat (first | (with_reducible first | exact HB.out | apply below_alloc | apply pw_below_drewN | apply below_drew1 | refine below_set ?_ GE282.out | refine below_set ?_ GE284.out) | exact HB.out)⟩⟩
                ·rw [if_neg c59] at H
                 have c59b0 : (((rd_T36 l0 x5_2).f0.f0) == a1_0 && (((rd_T36 l0 x5_2).f0.f1) == a1_1)) = false := by simpa using c59
                 (try (have c59b1 : decide (((rd_T36 l0 x5_2).f0.f0) = a1_0 && (((rd_T36 l0 x5_2).f0.f1) == a1_1)) = false := by simpa using c59))
                 (try (have c59b2 : (((rd_T36 l0 x5_2).f0.f0) == a1_0 && (((rd_T36 l0 x5_2).f0.f1) == a1_1)) = false := by simpa using c59))
                 (try (have c59b3 : ¬ (((rd_T36 l0 x5_2).f0.f0) = a1_0 && (((rd_T36 l0 x5_2).f0.f1) == a1_1)) := by simpa using c59))
                 clear c59
                 have H' := Aside0.mk H
                 clear H
                 have hnb63 := NB284_282.out
                 have hnc63 := NB282_284.out
                 have hcz64_0 : w14.cell? ⟨gb284, 0, none⟩ = some (.int .i64 0) := (blk_cell BK284.out 0).trans rfl
                 have hcz64_1 : w14.cell? ⟨gb284, 1, none⟩ = some (.int .i64 0) := (blk_cell BK284.out 1).trans rfl
                 have hcz64_2 : w14.cell? ⟨gb284, 2, none⟩ = some (.int .i64 0) := (blk_cell BK284.out 2).trans rfl
                 have hcz64_3 : w14.cell? ⟨gb284, 3, none⟩ = some (.int .i64 0) := (blk_cell BK284.out 3).trans rfl
                 have hfz64_0 := blk_frozen BK284.out 0
                 have hfz64_1 := blk_frozen BK284.out 1
                 have hfz64_2 := blk_frozen BK284.out 2
                 have hfz64_3 := blk_frozen BK284.out 3
                 have hcz65_0 : w14.cell? ⟨gb282, 0, none⟩ = some (.int .i64 a1_0) := (blk_cell BK282.out 0).trans rfl
                 have hcz65_1 : w14.cell? ⟨gb282, 1, none⟩ = some (.int .i64 a1_1) := (blk_cell BK282.out 1).trans rfl
                 have hfz65_0 := blk_frozen BK282.out 0
                 have hfz65_1 := blk_frozen BK282.out 1
                 go_wp2
                 repeat (go_quiet (fail); try go_wp2)
                 go_meet
                 case rel => exact ⟨_, ((((rd_T36 l0 x5_2).f1.f0) == a1_0 && (((rd_T36 l0 x5_2).f1.f1) == a1_1))), (by first | rfl | (simp; done) | (simp [*]; done)), H', ⟨by have := HJ2.out; have := HK2.out; first | omega | exact Nat.le_refl _⟩, ⟨by (with_reducible repeat (first | refine blk_drewN ?_ _ | refine blk_drew ?_ | refine blk_alloc ?_ _)); refine blk_far ?_ NB282_284.out _; (with_reducible repeat (first | refine blk_drewN ?_ _ | refine blk_drew ?_ | refine blk_alloc ?_ _)); refine blk_far ?_ NB282_284.out _; (with_reducible repeat (first | refine blk_drewN ?_ _ | refine blk_drew ?_ | refine blk_alloc ?_ _)); refine blk_far ?_ NB282_284.out _; (with_reducible repeat (first | refine blk_drewN ?_ _ | refine blk_drew ?_ | refine blk_alloc ?_ _)); refine blk_far ?_ NB282_284.out _; (with_reducible repeat (first | refine blk_drewN ?_ _ | refine blk_drew ?_ | refine blk_alloc ?_ _)); exact BK282.out⟩, ⟨by (with_reducible repeat (first | refine blk_drewN ?_ _ | refine blk_drew ?_ | refine blk_alloc ?_ _)); refine blk_put (cs := #[.int .i64 ((rd_T36 l0 x5_2).f0.f0), .int .i64 ((rd_T36 l0 x5_2).f0.f1), .int .i64 ((rd_T36 l0 x5_2).f1.f0), .int .i64 0]) ?_ 3 _ rfl; (with_reducible repeat (first | refine blk_drewN ?_ _ | refine blk_drew ?_ | refine blk_alloc ?_ _)); refine blk_put (cs := #[.int .i64 ((rd_T36 l0 x5_2).f0.f0), .int .i64 ((rd_T36 l0 x5_2).f0.f1), .int .i64 0, .int .i64 0]) ?_ 2 _ rfl; (with_reducible repeat (first | refine blk_drewN ?_ _ | refine blk_drew ?_ | refine blk_alloc ?_ _)); refine blk_put (cs := #[.int .i64 ((rd_T36 l0 x5_2).f0.f0), .int .i64 0, .int .i64 0, .int .i64 0]) ?_ 1 _ rfl; (with_reducible repeat (first | refine blk_drewN ?_ _ | refine blk_drew ?_ | refine blk_alloc ?_ _)); refine blk_put (cs := #[.int .i64 0, .int .i64 0, .int .i64 0, .int .i64 0]) ?_ 0 _ rfl; (with_reducible repeat (first | refine blk_drewN ?_ _ | refine blk_drew ?_ | refine blk_alloc ?_ _)); exact BK284.out⟩, ⟨by repeat (first | (with_reducible first | exact HB.out | apply below_alloc | apply pw_below_drewN | apply below_drew1 | refine below_set ?_ GE282.out | refine below_set ?_ GE284.out) | exact HB.out)⟩⟩
              ·rw [if_neg c55] at H
               have c55b0 : decide (((rd_T36 l0 x5_2).f1.f0) < 3) = false := decide_eq_false c55
               clear c55
               by_cases c66 : (((rd_T36 l0 x5_2).f0.f0) == a1_0 && (((rd_T36 l0 x5_2).f0.f1) == a1_1)) = true
               ·rw [if_pos c66] at H
                have c66b0 : (((rd_T36 l0 x5_2).f0.f0) == a1_0 && (((rd_T36 l0 x5_2).f0.f1) == a1_1)) = true := c66
                (try (have c66b1 : decide (((rd_T36 l0 x5_2).f0.f0) = a1_0 && (((rd_T36 l0 x5_2).f0.f1) == a1_1)) = true := by simpa using c66))
                (try (have c66b2 : (((rd_T36 l0 x5_2).f0.f0) == a1_0 && (((rd_T36 l0 x5_2).f0.f1) == a1_1)) = true := by simpa using c66))
                clear c66
                have H' := Aside0.mk H
                clear H
                have hnb67 := NB284_282.out
                have hnc67 := NB282_284.out
                have hcz68_0 : w14.cell? ⟨gb284, 0, none⟩ = some (.int .i64 0) := (blk_cell BK284.out 0).trans rfl
                have hcz68_1 : w14.cell? ⟨gb284, 1, none⟩ = some (.int .i64 0) := (blk_cell BK284.out 1).trans rfl
                have hcz68_2 : w14.cell? ⟨gb284, 2, none⟩ = some (.int .i64 0) := (blk_cell BK284.out 2).trans rfl
                have hcz68_3 : w14.cell? ⟨gb284, 3, none⟩ = some (.int .i64 0) := (blk_cell BK284.out 3).trans rfl
                have hfz68_0 := blk_frozen BK284.out 0
                have hfz68_1 := blk_frozen BK284.out 1
                have hfz68_2 := blk_frozen BK284.out 2
                have hfz68_3 := blk_frozen BK284.out 3
                have hcz69_0 : w14.cell? ⟨gb282, 0, none⟩ = some (.int .i64 a1_0) := (blk_cell BK282.out 0).trans rfl
                have hcz69_1 : w14.cell? ⟨gb282, 1, none⟩ = some (.int .i64 a1_1) := (blk_cell BK282.out 1).trans rfl
                have hfz69_0 := blk_frozen BK282.out 0
                have hfz69_1 := blk_frozen BK282.out 1
                go_wp2
                repeat (go_quiet (fail); try go_wp2)
                go_meet
                case rel => exact ⟨_, (true), (by first | rfl | (simp; done) | (simp [*]; done)), H', ⟨by have := HJ2.out; have := HK2.out; first | omega | exact Nat.le_refl _⟩, ⟨by (with_reducible repeat (first | refine blk_drewN ?_ _ | refine blk_drew ?_ | refine blk_alloc ?_ _)); refine blk_far ?_ NB282_284.out _; (with_reducible repeat (first | refine blk_drewN ?_ _ | refine blk_drew ?_ | refine blk_alloc ?_ _)); refine blk_far ?_ NB282_284.out _; (with_reducible repeat (first | refine blk_drewN ?_ _ | refine blk_drew ?_ | refine blk_alloc ?_ _)); refine blk_far ?_ NB282_284.out _; (with_reducible repeat (first | refine blk_drewN ?_ _ | refine blk_drew ?_ | refine blk_alloc ?_ _)); refine blk_far ?_ NB282_284.out _; (with_reducible repeat (first | refine blk_drewN ?_ _ | refine blk_drew ?_ | refine blk_alloc ?_ _)); exact BK282.out⟩, ⟨by (with_reducible repeat (first | refine blk_drewN ?_ _ | refine blk_drew ?_ | refine blk_alloc ?_ _)); refine blk_put (cs := #[.int .i64 ((rd_T36 l0 x5_2).f0.f0), .int .i64 ((rd_T36 l0 x5_2).f0.f1), .int .i64 ((rd_T36 l0 x5_2).f1.f0), .int .i64 0]) ?_ 3 _ rfl; (with_reducible repeat (first | refine blk_drewN ?_ _ | refine blk_drew ?_ | refine blk_alloc ?_ _)); refine blk_put (cs := #[.int .i64 ((rd_T36 l0 x5_2).f0.f0), .int .i64 ((rd_T36 l0 x5_2).f0.f1), .int .i64 0, .int .i64 0]) ?_ 2 _ rfl; (with_reducible repeat (first | refine blk_drewN ?_ _ | refine blk_drew ?_ | refine blk_alloc ?_ _)); refine blk_put (cs := #[.int .i64 ((rd_T36 l0 x5_2).f0.f0), .int .i64 0, .int .i64 0, .int .i64 0]) ?_ 1 _ rfl; (with_reducible repeat (first | refine blk_drewN ?_ _ | refine blk_drew ?_ | refine blk_alloc ?_ _)); refine blk_put (cs := #[.int .i64 0, .int .i64 0, .int .i64 0, .int .i64 0]) ?_ 0 _ rfl; (with_reducible repeat (first | refine blk_drewN ?_ _ | refine blk_drew ?_ | refine blk_alloc ?_ _)); exact BK284.out⟩, ⟨by repeat (first | (with_reducible first | exact HB.out | apply below_alloc | apply pw_below_drewN | apply below_drew1 | refine below_set ?_ GE282.out | refine below_set ?_ GE284.out) | exact HB.out)⟩⟩
               ·rw [if_neg c66] at H
                have c66b0 : (((rd_T36 l0 x5_2).f0.f0) == a1_0 && (((rd_T36 l0 x5_2).f0.f1) == a1_1)) = false := by simpa using c66
                (try (have c66b1 : decide (((rd_T36 l0 x5_2).f0.f0) = a1_0 && (((rd_T36 l0 x5_2).f0.f1) == a1_1)) = false := by simpa using c66))
                (try (have c66b2 : (((rd_T36 l0 x5_2).f0.f0) == a1_0 && (((rd_T36 l0 x5_2).f0.f1) == a1_1)) = false := by simpa using c66))
                (try (have c66b3 : ¬ (((rd_T36 l0 x5_2).f0.f0) = a1_0 && (((rd_T36 l0 x5_2).f0.f1) == a1_1)) := by simpa using c66))
                clear c66
                have H' := Aside0.mk H
                clear H
                have hnb70 := NB284_282.out
                have hnc70 := NB282_284.out
                have hcz71_0 : w14.cell? ⟨gb284, 0, none⟩ = some (.int .i64 0) := (blk_cell BK284.out 0).trans rfl
                have hcz71_1 : w14.cell? ⟨gb284, 1, none⟩ = some (.int .i64 0) := (blk_cell BK284.out 1).trans rfl
                have hcz71_2 : w14.cell? ⟨gb284, 2, none⟩ = some (.int .i64 0) := (blk_cell BK284.out 2).trans rfl
                have hcz71_3 : w14.cell? ⟨gb284, 3, none⟩ = some (.int .i64 0) := (blk_cell BK284.out 3).trans rfl
                have hfz71_0 := blk_frozen BK284.out 0
                have hfz71_1 := blk_frozen BK284.out 1
                have hfz71_2 := blk_frozen BK284.out 2
                have hfz71_3 := blk_frozen BK284.out 3
                have hcz72_0 : w14.cell? ⟨gb282, 0, none⟩ = some (.int .i64 a1_0) := (blk_cell BK282.out 0).trans rfl
                have hcz72_1 : w14.cell? ⟨gb282, 1, none⟩ = some (.int .i64 a1_1) := (blk_cell BK282.out 1).trans rfl
                have hfz72_0 := blk_frozen BK282.out 0
                have hfz72_1 := blk_frozen BK282.out 1
                go_wp2
                repeat (go_quiet (fail); try go_wp2)
                go_meet
                case rel => exact ⟨_, ((((rd_T36 l0 x5_2).f1.f0) == a1_0 && (((rd_T36 l0 x5_2).f1.f1) == a1_1))), (by first | rfl | (simp; done) | (simp [*]; done)), H', ⟨by have := HJ2.out; have := HK2.out; first | omega | exact Nat.le_refl _⟩, ⟨by (with_reducible repeat (first | refine blk_drewN ?_ _ | refine blk_drew ?_ | refine blk_alloc ?_ _)); refine blk_far ?_ NB282_284.out _; (with_reducible repeat (first | refine blk_drewN ?_ _ | refine blk_drew ?_ | refine blk_alloc ?_ _)); refine blk_far ?_ NB282_284.out _; (with_reducible repeat (first | refine blk_drewN ?_ _ | refine blk_drew ?_ | refine blk_alloc ?_ _)); refine blk_far ?_ NB282_284.out _; (with_reducible repeat (first | refine blk_drewN ?_ _ | refine blk_drew ?_ | refine blk_alloc ?_ _)); refine blk_far ?_ NB282_284.out _; (with_reducible repeat (first | refine blk_drewN ?_ _ | refine blk_drew ?_ | refine blk_alloc ?_ _)); exact BK282.out⟩, ⟨by (with_reducible repeat (first | refine blk_drewN ?_ _ | refine blk_drew ?_ | refine blk_alloc ?_ _)); refine blk_put (cs := #[.int .i64 ((rd_T36 l0 x5_2).f0.f0), .int .i64 ((rd_T36 l0 x5_2).f0.f1), .int .i64 ((rd_T36 l0 x5_2).f1.f0), .int .i64 0]) ?_ 3 _ rfl; (with_reducible repeat (first | refine blk_drewN ?_ _ | refine blk_drew ?_ | refine blk_alloc ?_ _)); refine blk_put (cs := #[.int .i64 ((rd_T36 l0 x5_2).f0.f0), .int .i64 ((rd_T36 l0 x5_2).f0.f1), .int .i64 0, .int .i64 0]) ?_ 2 _ rfl; (with_reducible repeat (first | refine blk_drewN ?_ _ | refine blk_drew ?_ | refine blk_alloc ?_ _)); refine blk_put (cs := #[.int .i64 ((rd_T36 l0 x5_2).f0.f0), .int .i64 0, .int .i64 0, .int .i64 0]) ?_ 1 _ rfl; (with_reducible repeat (first | refine blk_drewN ?_ _ | refine blk_drew ?_ | refine blk_alloc ?_ _)); refine blk_put (cs := #[.int .i64 0, .int .i64 0, .int .i64 0, .int .i64 0]) ?_ 0 _ rfl; (with_reducible repeat (first | refine blk_drewN ?_ _ | refine blk_drew ?_ | refine blk_alloc ?_ _)); exact BK284.out⟩, ⟨by repeat (first | (with_reducible first | exact HB.out | apply below_alloc | apply pw_below_drewN | apply below_drew1 | refine below_set ?_ GE282.out | refine below_set ?_ GE284.out) | exact HB.out)⟩⟩
          ·rw [if_neg c45] at H
           have c45b0 : (((rd_T36 l0 x5_2).f0.f0) == 2) = false := beq_eq_false_iff_ne.mpr c45
           have c45b1 : (((rd_T36 l0 x5_2).f0.f0) != 2) = true := bne_iff_ne.mpr c45
           have H' := Aside0.mk H
           clear H
           have hnb73 := NB284_282.out
           have hnc73 := NB282_284.out
           have hcz74_0 : w14.cell? ⟨gb284, 0, none⟩ = some (.int .i64 0) := (blk_cell BK284.out 0).trans rfl
           have hcz74_1 : w14.cell? ⟨gb284, 1, none⟩ = some (.int .i64 0) := (blk_cell BK284.out 1).trans rfl
           have hcz74_2 : w14.cell? ⟨gb284, 2, none⟩ = some (.int .i64 0) := (blk_cell BK284.out 2).trans rfl
           have hcz74_3 : w14.cell? ⟨gb284, 3, none⟩ = some (.int .i64 0) := (blk_cell BK284.out 3).trans rfl
           have hfz74_0 := blk_frozen BK284.out 0
           have hfz74_1 := blk_frozen BK284.out 1
           have hfz74_2 := blk_frozen BK284.out 2
           have hfz74_3 := blk_frozen BK284.out 3
           go_wp2
           repeat (go_quiet (fail); try go_wp2)
           go_meet
           case rel => exact ⟨_, (true), (by first | rfl | (simp; done) | (simp [*]; done)), H', ⟨by have := HJ2.out; have := HK2.out; first | omega | exact Nat.le_refl _⟩, ⟨by (with_reducible repeat (first | refine blk_drewN ?_ _ | refine blk_drew ?_ | refine blk_alloc ?_ _)); refine blk_far ?_ NB282_284.out _; (with_reducible repeat (first | refine blk_drewN ?_ _ | refine blk_drew ?_ | refine blk_alloc ?_ _)); refine blk_far ?_ NB282_284.out _; (with_reducible repeat (first | refine blk_drewN ?_ _ | refine blk_drew ?_ | refine blk_alloc ?_ _)); refine blk_far ?_ NB282_284.out _; (with_reducible repeat (first | refine blk_drewN ?_ _ | refine blk_drew ?_ | refine blk_alloc ?_ _)); refine blk_far ?_ NB282_284.out _; (with_reducible repeat (first | refine blk_drewN ?_ _ | refine blk_drew ?_ | refine blk_alloc ?_ _)); exact BK282.out⟩, ⟨by (with_reducible repeat (first | refine blk_drewN ?_ _ | refine blk_drew ?_ | refine blk_alloc ?_ _)); refine blk_put (cs := #[.int .i64 ((rd_T36 l0 x5_2).f0.f0), .int .i64 ((rd_T36 l0 x5_2).f0.f1), .int .i64 ((rd_T36 l0 x5_2).f1.f0), .int .i64 0]) ?_ 3 _ rfl; (with_reducible repeat (first | refine blk_drewN ?_ _ | refine blk_drew ?_ | refine blk_alloc ?_ _)); refine blk_put (cs := #[.int .i64 ((rd_T36 l0 x5_2).f0.f0), .int .i64 ((rd_T36 l0 x5_2).f0.f1), .int .i64 0, .int .i64 0]) ?_ 2 _ rfl; (with_reducible repeat (first | refine blk_drewN ?_ _ | refine blk_drew ?_ | refine blk_alloc ?_ _)); refine blk_put (cs := #[.int .i64 ((rd_T36 l0 x5_2).f0.f0), .int .i64 0, .int .i64 0, .int .i64 0]) ?_ 1 _ rfl; (with_reducible repeat (first | refine blk_drewN ?_ _ | refine blk_drew ?_ | refine blk_alloc ?_ _)); refine blk_put (cs := #[.int .i64 0, .int .i64 0, .int .i64 0, .int .i64 0]) ?_ 0 _ rfl; (with_reducible repeat (first | refine blk_drewN ?_ _ | refine blk_drew ?_ | refine blk_alloc ?_ _)); exact BK284.out⟩, ⟨by repeat (first | (with_reducible first | exact HB.out | apply below_alloc | apply pw_below_drewN | apply below_drew1 | refine below_set ?_ GE282.out | refine below_set ?_ GE284.out) | exact HB.out)⟩⟩
        case rest =>
         clear HC13
         try clear c1
         try clear c2
         try clear p2
         try clear q2
         try clear hx2
         try clear c3
         try clear c4
         try clear c5
         try clear c5b0
         try clear c5b1
         try clear c6
         try clear c7
         try clear c7b0
         try clear c7b1
         try clear c10
         try clear c11
         try clear c11b0
         try clear c12
         try clear c12b0
         try clear c15
         try clear c17
         try clear c17b0
         try clear c17b1
         try clear c18
         try clear c18b0
         try clear c19
         try clear c21
         try clear c21b0
         try clear c22
         try clear c24
         try clear c24b0
         try clear c25
         try clear c27
         try clear c27b0
         try clear c28
         try clear c28b0
         try clear p28
         try clear q28
         try clear hx28
         try clear c29
         try clear c31
         try clear c31b0
         try clear c31b1
         try clear c31b2
         try clear c32
         try clear c35
         try clear c38
         try clear c38b0
         try clear c38b1
         try clear c38b2
         try clear c39
         try clear c42
         try clear c45
         try clear c45b0
         try clear c45b1
         try clear c46
         try clear c46b0
         try clear c47
         try clear c49
         try clear c49b0
         try clear c50
         try clear c52
         try clear c52b0
         try clear c53
         try clear c55
         try clear c55b0
         try clear c56
         try clear c56b0
         try clear c57
         try clear c59
         try clear c59b0
         try clear c59b1
         try clear c59b2
         try clear c60
         try clear c63
         try clear c66
         try clear c66b0
         try clear c66b1
         try clear c66b2
         try clear c67
         try clear c70
         try clear c73
         try clear hcz16_0
         try clear hcz16_1
         try clear hcz16_2
         try clear hcz16_3
         try clear hcz20_0
         try clear hcz20_1
         try clear hcz20_2
         try clear hcz20_3
         try clear hcz23_0
         try clear hcz23_1
         try clear hcz23_2
         try clear hcz23_3
         try clear hcz26_0
         try clear hcz26_1
         try clear hcz26_2
         try clear hcz26_3
         try clear hcz30_0
         try clear hcz30_1
         try clear hcz30_2
         try clear hcz30_3
         try clear hcz33_0
         try clear hcz33_1
         try clear hcz33_2
         try clear hcz33_3
         try clear hcz34_0
         try clear hcz34_1
         try clear hcz36_0
         try clear hcz36_1
         try clear hcz36_2
         try clear hcz36_3
         try clear hcz37_0
         try clear hcz37_1
         try clear hcz40_0
         try clear hcz40_1
         try clear hcz40_2
         try clear hcz40_3
         try clear hcz41_0
         try clear hcz41_1
         try clear hcz43_0
         try clear hcz43_1
         try clear hcz43_2
         try clear hcz43_3
         try clear hcz44_0
         try clear hcz44_1
         try clear hcz48_0
         try clear hcz48_1
         try clear hcz48_2
         try clear hcz48_3
         try clear hcz51_0
         try clear hcz51_1
         try clear hcz51_2
         try clear hcz51_3
         try clear hcz54_0
         try clear hcz54_1
         try clear hcz54_2
         try clear hcz54_3
         try clear hcz58_0
         try clear hcz58_1
         try clear hcz58_2
         try clear hcz58_3
         try clear hcz61_0
         try clear hcz61_1
         try clear hcz61_2
         try clear hcz61_3
         try clear hcz62_0
         try clear hcz62_1
         try clear hcz64_0
         try clear hcz64_1
         try clear hcz64_2
         try clear hcz64_3
         try clear hcz65_0
         try clear hcz65_1
         try clear hcz68_0
         try clear hcz68_1
         try clear hcz68_2
         try clear hcz68_3
         try clear hcz69_0
         try clear hcz69_1
         try clear hcz6_0
         try clear hcz6_1
         try clear hcz71_0
         try clear hcz71_1
         try clear hcz71_2
         try clear hcz71_3
         try clear hcz72_0
         try clear hcz72_1
         try clear hcz74_0
         try clear hcz74_1
         try clear hcz74_2
         try clear hcz74_3
         try clear hcz8_0
         try clear hcz8_1
         try clear hcz9_0
         try clear hcz9_1
         try clear hfz16_0
         try clear hfz16_1
         try clear hfz16_2
         try clear hfz16_3
         try clear hfz20_0
         try clear hfz20_1
         try clear hfz20_2
         try clear hfz20_3
         try clear hfz23_0
         try clear hfz23_1
         try clear hfz23_2
         try clear hfz23_3
         try clear hfz26_0
         try clear hfz26_1
         try clear hfz26_2
         try clear hfz26_3
         try clear hfz30_0
         try clear hfz30_1
         try clear hfz30_2
         try clear hfz30_3
         try clear hfz33_0
         try clear hfz33_1
         try clear hfz33_2
         try clear hfz33_3
         try clear hfz34_0
         try clear hfz34_1
         try clear hfz36_0
         try clear hfz36_1
         try clear hfz36_2
         try clear hfz36_3
         try clear hfz37_0
         try clear hfz37_1
         try clear hfz40_0
         try clear hfz40_1
         try clear hfz40_2
         try clear hfz40_3
         try clear hfz41_0
         try clear hfz41_1
         try clear hfz43_0
         try clear hfz43_1
         try clear hfz43_2
         try clear hfz43_3
         try clear hfz44_0
         try clear hfz44_1
         try clear hfz48_0
         try clear hfz48_1
         try clear hfz48_2
         try clear hfz48_3
         try clear hfz51_0
         try clear hfz51_1
         try clear hfz51_2
         try clear hfz51_3
         try clear hfz54_0
         try clear hfz54_1
         try clear hfz54_2
         try clear hfz54_3
         try clear hfz58_0
         try clear hfz58_1
         try clear hfz58_2
         try clear hfz58_3
         try clear hfz61_0
         try clear hfz61_1
         try clear hfz61_2
         try clear hfz61_3
         try clear hfz62_0
         try clear hfz62_1
         try clear hfz64_0
         try clear hfz64_1
         try clear hfz64_2
         try clear hfz64_3
         try clear hfz65_0
         try clear hfz65_1
         try clear hfz68_0
         try clear hfz68_1
         try clear hfz68_2
         try clear hfz68_3
         try clear hfz69_0
         try clear hfz69_1
         try clear hfz6_0
         try clear hfz6_1
         try clear hfz71_0
         try clear hfz71_1
         try clear hfz71_2
         try clear hfz71_3
         try clear hfz72_0
         try clear hfz72_1
         try clear hfz74_0
         try clear hfz74_1
         try clear hfz74_2
         try clear hfz74_3
         try clear hfz8_0
         try clear hfz8_1
         try clear hfz9_0
         try clear hfz9_1
         try clear hx283_0
         try clear hx283_1
         try clear hx283_2
         try clear hx283_3
         try clear p2
         try clear p283
         try clear q283
         obtain ⟨kq, x82_12, rfl, HA, HJ12, BK282, BK284, HB⟩ := hcut
         cases kq with
         | zero => exact absurd HA.out (by simp [quernlaw13_right.j2])
         | succ kj12 =>
          have H := HA.out
          clear HA
          simp only [quernlaw13_right.j2] at H
          by_cases c75 : x82_12 = true
          ·subst c75
           have H1 : (some false) = some r := by rw [if_pos rfl] at H; exact H
           clear H
           have H := H1
           clear H1
           obtain rfl := Option.some.inj H
           go_wp2
           repeat (go_quiet (fail); try go_wp2)
           go_ret
           exact ⟨by first | rfl | (simp [errW_none, errW_some] <;> rfl) | (simp [*, errW_none, errW_some] <;> rfl), by repeat (first | (with_reducible first | exact HB.out | apply below_alloc | apply pw_below_drewN | apply below_drew1 | refine below_set ?_ GE282.out | refine below_set ?_ GE284.out) | exact HB.out)⟩
          ·replace c75 := Bool.eq_false_iff.mpr c75
           subst c75
           have H1 : (quernlaw13_right.l1 kj12 l0 x5_2 0 a1_0 a1_1 ((rd_T36 l0 x5_2).f0.f0) ((rd_T36 l0 x5_2).f0.f1) ((rd_T36 l0 x5_2).f1.f0) ((rd_T36 l0 x5_2).f1.f1)) = some r := by rw [if_neg (show ¬ (false = true) by decide)] at H; exact H
           clear H
           have H := H1
           clear H1
           have H' := Aside0.mk H
           clear H
           go_wp2
           repeat (go_quiet (fail); try go_wp2)
           go_loopg [7] kj12 (fun kq v7 w' => ∃ (x7_4 : Int), v7 = .int .i64 x7_4 ∧ Aside0 (quernlaw13_right.l1 kq l0 x5_2 x7_4 a1_0 a1_1 ((rd_T36 l0 x5_2).f0.f0) ((rd_T36 l0 x5_2).f0.f1) ((rd_T36 l0 x5_2).f1.f0) ((rd_T36 l0 x5_2).f1.f1) = some r) ∧ Aside0 (kq ≤ kj12) ∧ Aside0 (w'.heap[gb282]? = some (.cells #[.int .i64 a1_0, .int .i64 a1_1] 24 (0, 0))) ∧ Aside0 (w'.heap[gb284]? = some (.cells #[.int .i64 ((rd_T36 l0 x5_2).f0.f0), .int .i64 ((rd_T36 l0 x5_2).f0.f1), .int .i64 ((rd_T36 l0 x5_2).f1.f0), .int .i64 ((rd_T36 l0 x5_2).f1.f1)] 36 (0, 0))) ∧ Aside0 (Below w.heap.size w w'))
           case atStart => exact ⟨(0), (by first | rfl | (simp; done) | (simp [*]; done)), H', ⟨Nat.le_refl _⟩, ⟨by (with_reducible repeat (first | refine blk_drewN ?_ _ | refine blk_drew ?_ | refine blk_alloc ?_ _)); exact BK282.out⟩, ⟨by (with_reducible repeat (first | refine blk_drewN ?_ _ | refine blk_drew ?_ | refine blk_alloc ?_ _)); exact BK284.out⟩, ⟨by repeat (first | (with_reducible first | exact HB.out | apply below_alloc | apply pw_below_drewN | apply below_drew1 | refine below_set ?_ GE282.out | refine below_set ?_ GE284.out) | exact HB.out)⟩⟩
           case round =>
            clear H'
            try clear c1
            try clear c2
            try clear p2
            try clear q2
            try clear hx2
            try clear c3
            try clear c4
            try clear c5
            try clear c5b0
            try clear c5b1
            try clear c6
            try clear c7
            try clear c7b0
            try clear c7b1
            try clear c10
            try clear c11
            try clear c11b0
            try clear c12
            try clear c12b0
            try clear c15
            try clear c17
            try clear c17b0
            try clear c17b1
            try clear c18
            try clear c18b0
            try clear c19
            try clear c21
            try clear c21b0
            try clear c22
            try clear c24
            try clear c24b0
            try clear c25
            try clear c27
            try clear c27b0
            try clear c28
            try clear c28b0
            try clear p28
            try clear q28
            try clear hx28
            try clear c29
            try clear c31
            try clear c31b0
            try clear c31b1
            try clear c31b2
            try clear c32
            try clear c35
            try clear c38
            try clear c38b0
            try clear c38b1
            try clear c38b2
            try clear c39
            try clear c42
            try clear c45
            try clear c45b0
            try clear c45b1
            try clear c46
            try clear c46b0
            try clear c47
            try clear c49
            try clear c49b0
            try clear c50
            try clear c52
            try clear c52b0
            try clear c53
            try clear c55
            try clear c55b0
            try clear c56
            try clear c56b0
            try clear c57
            try clear c59
            try clear c59b0
            try clear c59b1
            try clear c59b2
            try clear c60
            try clear c63
            try clear c66
            try clear c66b0
            try clear c66b1
            try clear c66b2
            try clear c67
            try clear c70
            try clear c73
            try clear c75
            try clear hcz16_0
            try clear hcz16_1
            try clear hcz16_2
            try clear hcz16_3
            try clear hcz20_0
            try clear hcz20_1
            try clear hcz20_2
            try clear hcz20_3
            try clear hcz23_0
            try clear hcz23_1
            try clear hcz23_2
            try clear hcz23_3
            try clear hcz26_0
            try clear hcz26_1
            try clear hcz26_2
            try clear hcz26_3
            try clear hcz30_0
            try clear hcz30_1
            try clear hcz30_2
            try clear hcz30_3
            try clear hcz33_0
            try clear hcz33_1
            try clear hcz33_2
            try clear hcz33_3
            try clear hcz34_0
            try clear hcz34_1
            try clear hcz36_0
            try clear hcz36_1
            try clear hcz36_2
            try clear hcz36_3
            try clear hcz37_0
            try clear hcz37_1
            try clear hcz40_0
            try clear hcz40_1
            try clear hcz40_2
            try clear hcz40_3
            try clear hcz41_0
            try clear hcz41_1
            try clear hcz43_0
            try clear hcz43_1
            try clear hcz43_2
            try clear hcz43_3
            try clear hcz44_0
            try clear hcz44_1
            try clear hcz48_0
            try clear hcz48_1
            try clear hcz48_2
            try clear hcz48_3
            try clear hcz51_0
            try clear hcz51_1
            try clear hcz51_2
            try clear hcz51_3
            try clear hcz54_0
            try clear hcz54_1
            try clear hcz54_2
            try clear hcz54_3
            try clear hcz58_0
            try clear hcz58_1
            try clear hcz58_2
            try clear hcz58_3
            try clear hcz61_0
            try clear hcz61_1
            try clear hcz61_2
            try clear hcz61_3
            try clear hcz62_0
            try clear hcz62_1
            try clear hcz64_0
            try clear hcz64_1
            try clear hcz64_2
            try clear hcz64_3
            try clear hcz65_0
            try clear hcz65_1
            try clear hcz68_0
            try clear hcz68_1
            try clear hcz68_2
            try clear hcz68_3
            try clear hcz69_0
            try clear hcz69_1
            try clear hcz6_0
            try clear hcz6_1
            try clear hcz71_0
            try clear hcz71_1
            try clear hcz71_2
            try clear hcz71_3
            try clear hcz72_0
            try clear hcz72_1
            try clear hcz74_0
            try clear hcz74_1
            try clear hcz74_2
            try clear hcz74_3
            try clear hcz8_0
            try clear hcz8_1
            try clear hcz9_0
            try clear hcz9_1
            try clear hfz16_0
            try clear hfz16_1
            try clear hfz16_2
            try clear hfz16_3
            try clear hfz20_0
            try clear hfz20_1
            try clear hfz20_2
            try clear hfz20_3
            try clear hfz23_0
            try clear hfz23_1
            try clear hfz23_2
            try clear hfz23_3
            try clear hfz26_0
            try clear hfz26_1
            try clear hfz26_2
            try clear hfz26_3
            try clear hfz30_0
            try clear hfz30_1
            try clear hfz30_2
            try clear hfz30_3
            try clear hfz33_0
            try clear hfz33_1
            try clear hfz33_2
            try clear hfz33_3
            try clear hfz34_0
            try clear hfz34_1
            try clear hfz36_0
            try clear hfz36_1
            try clear hfz36_2
            try clear hfz36_3
            try clear hfz37_0
            try clear hfz37_1
            try clear hfz40_0
            try clear hfz40_1
            try clear hfz40_2
            try clear hfz40_3
            try clear hfz41_0
            try clear hfz41_1
            try clear hfz43_0
            try clear hfz43_1
            try clear hfz43_2
            try clear hfz43_3
            try clear hfz44_0
            try clear hfz44_1
            try clear hfz48_0
            try clear hfz48_1
            try clear hfz48_2
            try clear hfz48_3
            try clear hfz51_0
            try clear hfz51_1
            try clear hfz51_2
            try clear hfz51_3
            try clear hfz54_0
            try clear hfz54_1
            try clear hfz54_2
            try clear hfz54_3
            try clear hfz58_0
            try clear hfz58_1
            try clear hfz58_2
            try clear hfz58_3
            try clear hfz61_0
            try clear hfz61_1
            try clear hfz61_2
            try clear hfz61_3
            try clear hfz62_0
            try clear hfz62_1
            try clear hfz64_0
            try clear hfz64_1
            try clear hfz64_2
            try clear hfz64_3
            try clear hfz65_0
            try clear hfz65_1
            try clear hfz68_0
            try clear hfz68_1
            try clear hfz68_2
            try clear hfz68_3
            try clear hfz69_0
            try clear hfz69_1
            try clear hfz6_0
            try clear hfz6_1
            try clear hfz71_0
            try clear hfz71_1
            try clear hfz71_2
            try clear hfz71_3
            try clear hfz72_0
            try clear hfz72_1
            try clear hfz74_0
            try clear hfz74_1
            try clear hfz74_2
            try clear hfz74_3
            try clear hfz8_0
            try clear hfz8_1
            try clear hfz9_0
            try clear hfz9_1
            try clear hx283_0
            try clear hx283_1
            try clear hx283_2
            try clear hx283_3
            try clear p2
            try clear p28
            try clear p283
            try clear q2
            try clear q28
            try clear q283
            obtain ⟨x7_4, rfl, HA, HK4, BK282, BK284, HB⟩ := hrel
            cases gk with
            | zero => exact absurd HA.out (by simp [quernlaw13_right.l1])
            | succ k4 =>
             have H := HA.out
             clear HA
             simp only [quernlaw13_right.l1] at H
             by_cases c76 : x7_4 < x5_2
             ·rw [if_pos c76] at H
              have c76b0 : decide (x7_4 < x5_2) = true := decide_eq_true c76
              clear c76
              by_cases c77 : 0 ≤ x7_4
              ·rw [if_pos c77] at H
               have c77b0 : decide (0 ≤ x7_4) = true := decide_eq_true c77
               clear c77
               by_cases c78 : x7_4 < (l0.length : Int)
               ·rw [if_pos c78] at H
                have c78b0 : decide (x7_4 < (l0.length : Int)) = true := decide_eq_true c78
                clear c78
                by_cases c79 : (((rd_T36 l0 x7_4).f0.f0) == ((rd_T36 l0 x5_2).f0.f0) && (((rd_T36 l0 x7_4).f0.f1) == ((rd_T36 l0 x5_2).f0.f1))) = true
                ·rw [if_pos c79] at H
                 have c79b0 : (((rd_T36 l0 x7_4).f0.f0) == ((rd_T36 l0 x5_2).f0.f0) && (((rd_T36 l0 x7_4).f0.f1) == ((rd_T36 l0 x5_2).f0.f1))) = true := c79
                 (try (have c79b1 : decide (((rd_T36 l0 x7_4).f0.f0) = ((rd_T36 l0 x5_2).f0.f0) && (((rd_T36 l0 x7_4).f0.f1) == ((rd_T36 l0 x5_2).f0.f1))) = true := by simpa using c79))
                 (try (have c79b2 : (((rd_T36 l0 x7_4).f0.f0) == ((rd_T36 l0 x5_2).f0.f0) && (((rd_T36 l0 x7_4).f0.f1) == ((rd_T36 l0 x5_2).f0.f1))) = true := by simpa using c79))
                 clear c79
                 obtain rfl := Option.some.inj H
                 have p285 : 0 ≤ (x7_4 : Int) := of_decide_eq_true (by first | (with_reducible assumption) | assumption)
                 have q285 : x7_4 < (l0.length : Int) := of_decide_eq_true (by first | (with_reducible assumption) | assumption)
                 obtain ⟨ad285, e285, hx285_0, hx285_1, hx285_2, hx285_3⟩ := at_T36 HR0.out x7_4 p285 q285
                 obtain rfl : ad283 = ad285 := (by injection e285)
                 replace hx285_0 := cellA HB hx285_0
                 replace hx285_1 := cellA HB hx285_1
                 replace hx285_2 := cellA HB hx285_2
                 replace hx285_3 := cellA HB hx285_3
                 replace p285 := eq_true p285
                 replace q285 := eq_true q285
                 have hnb80 := NB284_282.out
                 have hnc80 := NB282_284.out
                 have hcz81_0 : wr.cell? ⟨gb284, 0, none⟩ = some (.int .i64 ((rd_T36 l0 x5_2).f0.f0)) := (blk_cell BK284.out 0).trans rfl
                 have hcz81_1 : wr.cell? ⟨gb284, 1, none⟩ = some (.int .i64 ((rd_T36 l0 x5_2).f0.f1)) := (blk_cell BK284.out 1).trans rfl
                 have hcz81_2 : wr.cell? ⟨gb284, 2, none⟩ = some (.int .i64 ((rd_T36 l0 x5_2).f1.f0)) := (blk_cell BK284.out 2).trans rfl
                 have hcz81_3 : wr.cell? ⟨gb284, 3, none⟩ = some (.int .i64 ((rd_T36 l0 x5_2).f1.f1)) := (blk_cell BK284.out 3).trans rfl
                 have hfz81_0 := blk_frozen BK284.out 0
                 have hfz81_1 := blk_frozen BK284.out 1
                 have hfz81_2 := blk_frozen BK284.out 2
                 have hfz81_3 := blk_frozen BK284.out 3
                 go_wp2
                 repeat (go_quiet (fail); try go_wp2)
                 go_ret
                 exact ⟨by first | rfl | (simp [errW_none, errW_some] <;> rfl) | (simp [*, errW_none, errW_some] <;> rfl), by repeat (first | (with_reducible first | exact HB.out | apply below_alloc | apply pw_below_drewN | apply below_drew1 | refine below_set ?_ GE282.out | refine below_set ?_ GE284.out) | exact HB.out)⟩
                ·rw [if_neg c79] at H
                 have c79b0 : (((rd_T36 l0 x7_4).f0.f0) == ((rd_T36 l0 x5_2).f0.f0) && (((rd_T36 l0 x7_4).f0.f1) == ((rd_T36 l0 x5_2).f0.f1))) = false := by simpa using c79
                 (try (have c79b1 : decide (((rd_T36 l0 x7_4).f0.f0) = ((rd_T36 l0 x5_2).f0.f0) && (((rd_T36 l0 x7_4).f0.f1) == ((rd_T36 l0 x5_2).f0.f1))) = false := by simpa using c79))
                 (try (have c79b2 : (((rd_T36 l0 x7_4).f0.f0) == ((rd_T36 l0 x5_2).f0.f0) && (((rd_T36 l0 x7_4).f0.f1) == ((rd_T36 l0 x5_2).f0.f1))) = false := by simpa using c79))
                 (try (have c79b3 : ¬ (((rd_T36 l0 x7_4).f0.f0) = ((rd_T36 l0 x5_2).f0.f0) && (((rd_T36 l0 x7_4).f0.f1) == ((rd_T36 l0 x5_2).f0.f1))) := by simpa using c79))
                 clear c79
                 have H' := Aside0.mk H
                 clear H
                 have p285 : 0 ≤ (x7_4 : Int) := of_decide_eq_true (by first | (with_reducible assumption) | assumption)
                 have q285 : x7_4 < (l0.length : Int) := of_decide_eq_true (by first | (with_reducible assumption) | assumption)
                 obtain ⟨ad285, e285, hx285_0, hx285_1, hx285_2, hx285_3⟩ := at_T36 HR0.out x7_4 p285 q285
                 obtain rfl : ad283 = ad285 := (by injection e285)
                 replace hx285_0 := cellA HB hx285_0
                 replace hx285_1 := cellA HB hx285_1
                 replace hx285_2 := cellA HB hx285_2
                 replace hx285_3 := cellA HB hx285_3
                 replace p285 := eq_true p285
                 replace q285 := eq_true q285
                 have hnb82 := NB284_282.out
                 have hnc82 := NB282_284.out
                 have hcz83_0 : wr.cell? ⟨gb284, 0, none⟩ = some (.int .i64 ((rd_T36 l0 x5_2).f0.f0)) := (blk_cell BK284.out 0).trans rfl
                 have hcz83_1 : wr.cell? ⟨gb284, 1, none⟩ = some (.int .i64 ((rd_T36 l0 x5_2).f0.f1)) := (blk_cell BK284.out 1).trans rfl
                 have hcz83_2 : wr.cell? ⟨gb284, 2, none⟩ = some (.int .i64 ((rd_T36 l0 x5_2).f1.f0)) := (blk_cell BK284.out 2).trans rfl
                 have hcz83_3 : wr.cell? ⟨gb284, 3, none⟩ = some (.int .i64 ((rd_T36 l0 x5_2).f1.f1)) := (blk_cell BK284.out 3).trans rfl
                 have hfz83_0 := blk_frozen BK284.out 0
                 have hfz83_1 := blk_frozen BK284.out 1
                 have hfz83_2 := blk_frozen BK284.out 2
                 have hfz83_3 := blk_frozen BK284.out 3
                 go_wp2
                 repeat (go_quiet (fail); try go_wp2)
                 go_roundg k4
                 case measure => have := HJ2.out; have := HK2.out; have := HJ12.out; have := HK4.out; omega
                 case rel => exact ⟨(wrap64 (x7_4 + 1)), (by first | rfl | (simp; done) | (simp [*]; done)), H', ⟨by have := HJ2.out; have := HK2.out; have := HJ12.out; have := HK4.out; omega⟩, ⟨by (with_reducible repeat (first | refine blk_drewN ?_ _ | refine blk_drew ?_ | refine blk_alloc ?_ _)); exact BK282.out⟩, ⟨by (with_reducible repeat (first | refine blk_drewN ?_ _ | refine blk_drew ?_ | refine blk_alloc ?_ _)); exact BK284.out⟩, ⟨by repeat (first | (with_reducible first | exact HB.out | apply below_alloc | apply pw_below_drewN | apply below_drew1 | refine below_set ?_ GE282.out | refine below_set ?_ GE284.out) | exact HB.out)⟩⟩
               ·rw [if_neg c78] at H
                exact absurd H (by simp)
              ·rw [if_neg c77] at H
               exact absurd H (by simp)
             ·rw [if_neg c76] at H
              have c76b0 : decide (x7_4 < x5_2) = false := decide_eq_false c76
              clear c76
              have H' := Aside0.mk H
              clear H
              go_wp2
              repeat (go_quiet (fail); try go_wp2)
              go_roundg k4
              case measure => have := HJ2.out; have := HK2.out; have := HJ12.out; have := HK4.out; omega
              case rel => exact ⟨(wrap64 (x5_2 + 1)), (by first | rfl | (simp; done) | (simp [*]; done)), H', ⟨by have := HJ2.out; have := HK2.out; have := HJ12.out; have := HK4.out; omega⟩, ⟨by (with_reducible repeat (first | refine blk_drewN ?_ _ | refine blk_drew ?_ | refine blk_alloc ?_ _)); exact BK282.out⟩, ⟨by repeat (first | (with_reducible first | exact HB.out | apply below_alloc | apply pw_below_drewN | apply below_drew1 | refine below_set ?_ GE282.out | refine below_set ?_ GE284.out) | exact HB.out)⟩⟩
       ·rw [if_neg c12] at H
        exact absurd H (by simp)
      ·rw [if_neg c11] at H
       have c11b0 : decide (x5_2 < (l0.length : Int)) = false := decide_eq_false c11
       clear c11
       obtain rfl := Option.some.inj H
       go_wp2
       repeat (go_quiet (fail); try go_wp2)
       go_ret
       exact ⟨by first | rfl | (simp [errW_none, errW_some] <;> rfl) | (simp [*, errW_none, errW_some] <;> rfl), by repeat (first | (with_reducible first | exact HB.out | apply below_alloc | apply pw_below_drewN | apply below_drew1 | refine below_set ?_ GE282.out) | exact HB.out)⟩

end Go.Proofs.Ytameoapnhmoleaa.PP
