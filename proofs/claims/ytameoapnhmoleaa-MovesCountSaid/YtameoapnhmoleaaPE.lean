-- Printed by the kit's print.py (turned by patchprint.py, made shorter by squeeze.py, mine). Not trusted: Lean checks it.
import Derived.Test.YtameoapnhmoleaaPA
import Derived.Test.YtameoapnhmoleaaPP4
import Derived.Test.YtameoapnhmoleaaPH
import Derived.Test.YtameoapnhmoleaaPP1
namespace Go.Proofs.Ytameoapnhmoleaa.PP
open Go.RowKit Go.Proofs.YtameoapnhmoleaaW.PrintWords Go.Proofs.YtameoapnhmoleaaW.PrintLast Go.Proofs.YtameoapnhmoleaaW.PrintMore
attribute [local go_sem] max2_int min2_int max_two min_two max_three min_three max_four min_four   -- for this text's walks alone
set_option linter.unusedVariables false
set_option linter.unusedSimpArgs false
attribute [local go_sem high] eqA24
/-! ### quernlaw13_MovesCount: function 5 -/
mutual
def quernlaw13_MovesCount.j0 : Nat → List (S36) → Bool → Bool → Int → Int → Option (Bool)
 | 0, _, _, _, _, _ => none
 | k + 1, x0, x5, x23, x331000, x331001 => if x23 = true then (some x5) else ((quernlaw13_lent.f x0).bind fun t333 => (if 0 ≤ (x0.length : Int) then (if (x0.length : Int) ≤ (t333.length : Int) then ((moves_Order.f k (t333.take ((x0.length : Int) : Int).toNat) x331000 x331001).bind fun bt340 => ((quernlaw13_circles.f k x0).bind fun t344 => (quernlaw13_MovesCount.l0 k x0 bt340.1 bt340.2 t344 0))) else (none)) else (none)))
def quernlaw13_MovesCount.l0 : Nat → List (S36) → List (S36) → Int → Int → Int → Option (Bool)
 | 0, _, _, _, _, _ => none
 | k + 1, x0, x6, x7, x8, x9 => if x9 < (x0.length : Int) then (if 0 ≤ x9 then (if (!(((rd_T36 x0 x9).f1.f0) == ((rd_T36 x0 x9).f0.f0)) || (!(((rd_T36 x0 x9).f1.f1) == ((rd_T36 x0 x9).f0.f1)))) = true then (quernlaw13_MovesCount.l0 k x0 x6 x7 (wrap64 (x8 + 1)) (wrap64 (x9 + 1))) else (quernlaw13_MovesCount.l0 k x0 x6 x7 x8 (wrap64 (x9 + 1)))) else (none)) else (if x7 = 0 then (some ((x6.length : Int) == x8)) else (some false))
end
def quernlaw13_MovesCount.f (k : Nat) (l0 : List (S36)) (a1_0 : Int) (a1_1 : Int) : Option (Bool) := (quernlaw13_alive.f k).bind fun t331 => (if t331 = true then (if (l0.length : Int) > 60 then (quernlaw13_MovesCount.j0 k l0 t331 true a1_0 a1_1) else ((quernlaw13_right.f k l0 a1_0 a1_1).bind fun t332 => (quernlaw13_MovesCount.j0 k l0 t331 (!t332) a1_0 a1_1))) else (quernlaw13_MovesCount.j0 k l0 t331 true a1_0 a1_1))
theorem quernlaw13_MovesCount.mono_l : ∀ k, (∀ y0 y1 y2 y3 y4, LeO (quernlaw13_MovesCount.j0 k y0 y1 y2 y3 y4) (quernlaw13_MovesCount.j0 (k + 1) y0 y1 y2 y3 y4)) ∧ (∀ y0 y1 y2 y3 y4, LeO (quernlaw13_MovesCount.l0 k y0 y1 y2 y3 y4) (quernlaw13_MovesCount.l0 (k + 1) y0 y1 y2 y3 y4))
 | 0 => ⟨fun _ _ _ _ _ r h => by simp [quernlaw13_MovesCount.j0] at h, fun _ _ _ _ _ r h => by simp [quernlaw13_MovesCount.l0] at h⟩
 | k + 1 => by
  obtain ⟨ih0, ih1⟩ := quernlaw13_MovesCount.mono_l k
  refine ⟨?_, ?_⟩
  ·intro y0 y1 y2 y3 y4
   unfold quernlaw13_MovesCount.j0
   repeat' first
   | (with_reducible exact ih0 _ _ _ _ _)
   | (with_reducible exact ih1 _ _ _ _ _)
   | (with_reducible exact moves_Order.mono _ _ _ _)
   | (with_reducible exact quernlaw13_alive.mono _)
   | (with_reducible exact quernlaw13_circles.mono _ _)
   | (with_reducible exact quernlaw13_right.mono _ _ _ _)
   | (with_reducible exact LeO.refl _)
   | (with_reducible exact LeO.none _)
   | (with_reducible refine LeO.ite ?_ ?_)
   | (with_reducible refine LeO.bind ?_ (fun _ => ?_))
   | exact ih0 _ _ _ _ _
   | exact ih1 _ _ _ _ _
   | exact moves_Order.mono _ _ _ _
   | exact quernlaw13_alive.mono _
   | exact quernlaw13_circles.mono _ _
   | exact quernlaw13_right.mono _ _ _ _
   | exact LeO.none _
   | refine LeO.ite ?_ ?_
   | refine LeO.bind ?_ (fun _ => ?_)
  ·intro y0 y1 y2 y3 y4
   unfold quernlaw13_MovesCount.l0
   repeat' first
   | (with_reducible exact ih0 _ _ _ _ _)
   | (with_reducible exact ih1 _ _ _ _ _)
   | (with_reducible exact moves_Order.mono _ _ _ _)
   | (with_reducible exact quernlaw13_alive.mono _)
   | (with_reducible exact quernlaw13_circles.mono _ _)
   | (with_reducible exact quernlaw13_right.mono _ _ _ _)
   | (with_reducible exact LeO.refl _)
   | (with_reducible exact LeO.none _)
   | (with_reducible refine LeO.ite ?_ ?_)
   | (with_reducible refine LeO.bind ?_ (fun _ => ?_))
   | exact ih0 _ _ _ _ _
   | exact ih1 _ _ _ _ _
   | exact moves_Order.mono _ _ _ _
   | exact quernlaw13_alive.mono _
   | exact quernlaw13_circles.mono _ _
   | exact quernlaw13_right.mono _ _ _ _
   | exact LeO.none _
   | refine LeO.ite ?_ ?_
   | refine LeO.bind ?_ (fun _ => ?_)
theorem quernlaw13_MovesCount.mono : ∀ a0 a1 a2 k, LeO (quernlaw13_MovesCount.f k a0 a1 a2) (quernlaw13_MovesCount.f (k + 1) a0 a1 a2) := by
 intro a0 a1 a2 k
 obtain ⟨ih0, ih1⟩ := quernlaw13_MovesCount.mono_l k
 unfold quernlaw13_MovesCount.f
 repeat' first
   | (with_reducible exact ih0 _ _ _ _ _)
   | (with_reducible exact ih1 _ _ _ _ _)
   | (with_reducible exact moves_Order.mono _ _ _ _)
   | (with_reducible exact quernlaw13_alive.mono _)
   | (with_reducible exact quernlaw13_circles.mono _ _)
   | (with_reducible exact quernlaw13_right.mono _ _ _ _)
   | (with_reducible exact LeO.refl _)
   | (with_reducible exact LeO.none _)
   | (with_reducible refine LeO.ite ?_ ?_)
   | (with_reducible refine LeO.bind ?_ (fun _ => ?_))
   | exact ih0 _ _ _ _ _
   | exact ih1 _ _ _ _ _
   | exact moves_Order.mono _ _ _ _
   | exact quernlaw13_alive.mono _
   | exact quernlaw13_circles.mono _ _
   | exact quernlaw13_right.mono _ _ _ _
   | exact LeO.none _
   | refine LeO.ite ?_ ?_
   | refine LeO.bind ?_ (fun _ => ?_)
def quernlaw13_MovesCount.T4 : Bool × List (List Nat × List Nat) := (true, [([], []), ([0], [0]), ([], []), ([2], [2]), ([1, 3], [1, 3]), ([], []), ([4, 5, 1], [4, 5]), ([6], [6]), ([7], [7]), ([7], [7]), ([8, 6, 0, 1, 2, 3, 4, 5, 6, 7, 8], [8]), ([9, 10, 0, 1, 2, 3, 4, 5, 6, 7, 8, 9, 10], [9])])
def quernlaw13_MovesCount.B4 : List Nat := [0, 1, 0, 4, 15, 0, 63, 127, 255, 255, 511, 2047]
theorem quernlaw13_MovesCount.tab4 : rtab .any (opsOf Try.f5 4) = quernlaw13_MovesCount.T4 := by kernel_rfl
theorem quernlaw13_MovesCount.bits4 : waitsOk quernlaw13_MovesCount.T4.2 quernlaw13_MovesCount.B4 = true := by kernel_rfl
def quernlaw13_MovesCount.T9 : Bool × List (List Nat × List Nat) := (true, [([], []), ([], []), ([0, 1], [0, 1]), ([2], [2]), ([3], [3]), ([], []), ([], []), ([5, 6], [5, 6]), ([7], [7]), ([8], [8]), ([4, 9], [4, 9])])
def quernlaw13_MovesCount.B9 : List Nat := [0, 0, 3, 7, 15, 0, 0, 96, 224, 480, 1023]
theorem quernlaw13_MovesCount.tab9 : rtab .any (opsOf Try.f5 9) = quernlaw13_MovesCount.T9 := by kernel_rfl
theorem quernlaw13_MovesCount.bits9 : waitsOk quernlaw13_MovesCount.T9.2 quernlaw13_MovesCount.B9 = true := by kernel_rfl
set_option maxHeartbeats 8000000 in
set_option maxRecDepth 100000 in
theorem quernlaw13_MovesCount.calls (k : Nat) (A0 : Option Addr) (c0 : Nat) (l0 : List (S36)) (a1_0 : Int) (a1_1 : Int) (r : Bool) (w : World) (hr0 : Kd.C k36 w A0 l0.length l0) (hc0 : l0.length ≤ c0) (h : quernlaw13_MovesCount.f k l0 a1_0 a1_1 = some r) :
  Calls Try.prog 5 #[.slice A0 l0.length c0, .agg #[.int .i64 a1_0, .int .i64 a1_1]] w fun e w' => e = .returned (.bool r) ∧ Below w.heap.size w w' := by
 have hu24 := Try.underlying24
 have HR0 := Aside0.mk hr0
 have HC0 := Aside0.mk hc0
 clear hr0 hc0
 have HB := Aside0.mk (Below.refl w.heap.size w)
 have H : ((quernlaw13_alive.f k).bind fun t331 => (if t331 = true then (if (l0.length : Int) > 60 then (quernlaw13_MovesCount.j0 k l0 t331 true a1_0 a1_1) else ((quernlaw13_right.f k l0 a1_0 a1_1).bind fun t332 => (quernlaw13_MovesCount.j0 k l0 t331 (!t332) a1_0 a1_1))) else (quernlaw13_MovesCount.j0 k l0 t331 true a1_0 a1_1))) = some r := h
 clear h
 replace H := Option.bind_eq_some_iff.mp H
 obtain ⟨t331, A30, H⟩ := H
 replace H : (if t331 = true then (if (l0.length : Int) > 60 then (quernlaw13_MovesCount.j0 k l0 t331 true a1_0 a1_1) else ((quernlaw13_right.f k l0 a1_0 a1_1).bind fun t332 => (quernlaw13_MovesCount.j0 k l0 t331 (!t332) a1_0 a1_1))) else (quernlaw13_MovesCount.j0 k l0 t331 true a1_0 a1_1)) = some r := H
 have A3 := Aside0.mk A30
 clear A30
 have HC4 := Aside0.mk H
 clear H
 go_enter Try.func5, Try.ntmps5
 go_upto_region 2 with (first | ((with_reducible refine gate_dst (N := 3) rfl ?_); (try (refine gate_guard (by rfl) ?_; dsimp only)); refine box_event ?hg (N := 3) ?hd (cs := #[.int .i64 a1_0, .int .i64 a1_1]) (t := 24) ?hr ?_; (case hd => rfl); (case hg => rfl); (case hr => first | (go_simp; done) | (go_simp; rfl)); intro gb330 hg w5 hbox hb; have n0_ := Aside0.mk (below_step (by repeat (first | (with_reducible first | exact HB.out | apply below_alloc | apply pw_below_drewN | apply below_drew1) | exact HB.out)) hb); have n1_ := Aside0.mk (hbox); have n2_ := Aside0.mk ((by rw [hg]; exact (below_size (by repeat (first | (with_reducible first | exact HB.out | apply below_alloc | apply pw_below_drewN | apply below_drew1) | exact HB.out))) : w.heap.size ≤ gb330)); have n3_ := Aside0.mk ((by rw [hg]; exact (below_size (by repeat (first | (with_reducible first | exact HB.out | apply below_alloc | apply pw_below_drewN | apply below_drew1) | exact HB.out))) : w.heap.size ≤ gb330)); clear HB; have HB := n0_; have BK330 := n1_; have GW330 := n2_; have GE330 := n3_; clear n0_ n1_ n2_ n3_; clear hb hbox hg) | ((with_reducible refine gate_callee (f := 8) rfl ?_); refine goesL_ (some 10) rfl rfl Try.func8 (by kernel_rfl) rfl #[] rfl (by (try simp only [List.map_toArray, List.map_cons, List.map_nil]); first | done | rfl | (simp only [List.length_drop, List.length_take]; rfl)) ?_; (with_reducible refine (quernlaw13_alive.calls k  t331 _ A3.out).mono ?_); rintro e w6 ⟨rfl, hb⟩; refine ⟨_, rfl, ?_⟩; have n0_ := Aside0.mk (blk_below (g := gb330) (o := .cells #[.int .i64 a1_0, .int .i64 a1_1] 24 (0, 0)) (by (with_reducible repeat (first | refine blk_drewN ?_ _ | refine blk_drew ?_ | refine blk_alloc ?_ _)); exact BK330.out) hb); have n1_ := Aside0.mk (below_step (by repeat (first | (with_reducible first | exact HB.out | apply below_alloc | apply pw_below_drewN | apply below_drew1 | refine below_set ?_ GE330.out) | exact HB.out)) hb); clear BK330; clear HB; have BK330 := n0_; have HB := n1_; clear n0_ n1_; (try clear hb); (try clear hb2); (try clear hk); (try clear hi)))
 (try simp only [Act.put, List.setIfInBounds_toArray, List.set_cons_zero, List.set_cons_succ])
 go_cut [23] (fun v23 wc => ∃ (kq : Nat) (x23_3 : Bool), v23 = .bool x23_3 ∧ Aside0 (quernlaw13_MovesCount.j0 kq l0 t331 x23_3 a1_0 a1_1 = some r) ∧ Aside0 (kq ≤ k) ∧ Aside0 (wc.heap[gb330]? = some (.cells #[.int .i64 a1_0, .int .i64 a1_1] 24 (0, 0))) ∧ Aside0 (Below w.heap.size w wc))
 case first =>
  have H := HC4.out
  clear HC4
  by_cases c7 : t331 = true
  ·subst c7
   have H1 : (if (l0.length : Int) > 60 then (quernlaw13_MovesCount.j0 k l0 true true a1_0 a1_1) else ((quernlaw13_right.f k l0 a1_0 a1_1).bind fun t332 => (quernlaw13_MovesCount.j0 k l0 true (!t332) a1_0 a1_1))) = some r := by rw [if_pos rfl] at H; exact H
   clear H
   have H := H1
   clear H1
   by_cases c8 : (l0.length : Int) > 60
   ·rw [if_pos c8] at H
    have c8b0 : decide (60 < (l0.length : Int)) = true := decide_eq_true c8
    have c8b1 : decide (60 < l0.length) = true := decide_eq_true (by omega)
    clear c8
    (first | rw [c8b0] | (simp only [i64_w, i32_w]; rw [c8b0]) | skip)
    have H' := Aside0.mk H
    clear H
    go_wp2
    go_meet
    case rel => exact ⟨_, (true), (by first | rfl | (simp; done) | (simp [*]; done)), H', ⟨by first | omega | exact Nat.le_refl _⟩, ⟨by (with_reducible repeat (first | refine blk_drewN ?_ _ | refine blk_drew ?_ | refine blk_alloc ?_ _)); exact BK330.out⟩, ⟨by repeat (first | (with_reducible first | exact HB.out | apply below_alloc | apply pw_below_drewN | apply below_drew1 | refine below_set ?_ GE330.out) | exact HB.out)⟩⟩
   ·rw [if_neg c8] at H
    have c8b0 : decide (60 < (l0.length : Int)) = false := decide_eq_false c8
    have c8b1 : decide (60 < l0.length) = false := decide_eq_false (by omega)
    clear c8
    (first | rw [c8b0] | (simp only [i64_w, i32_w]; rw [c8b0]) | skip)
    replace H := Option.bind_eq_some_iff.mp H
    obtain ⟨t332, A90, H⟩ := H
    replace H : (quernlaw13_MovesCount.j0 k l0 true (!t332) a1_0 a1_1) = some r := H
    have A9 := Aside0.mk A90
    clear A90
    have H' := Aside0.mk H
    clear H
    have hcz10_0 : w6.cell? ⟨gb330, 0, none⟩ = some (.int .i64 a1_0) := (blk_cell BK330.out 0).trans rfl
    have hcz10_1 : w6.cell? ⟨gb330, 1, none⟩ = some (.int .i64 a1_1) := (blk_cell BK330.out 1).trans rfl
    have hfz10_0 := blk_frozen BK330.out 0
    have hfz10_1 := blk_frozen BK330.out 1
    go_wp2_with (first | (go_at_call 14; (with_reducible refine (quernlaw13_right.calls k _ _ l0 a1_0 a1_1 t332 _ ?side1 ?side2 A9.out).mono ?_); (case side1 => repeat (first | exact (Kd.C_below HR0.out HB.out) | (with_reducible refine Kd.C_alloc ?_ _) | (with_reducible refine Kd.C_drewN ?_ _) | (with_reducible refine Kd.C_drew ?_))); (case side2 => exact HC0.out); rintro e w11 ⟨rfl, hb⟩; have n0_ := Aside0.mk (blk_below (g := gb330) (o := .cells #[.int .i64 a1_0, .int .i64 a1_1] 24 (0, 0)) (by (with_reducible repeat (first | refine blk_drewN ?_ _ | refine blk_drew ?_ | refine blk_alloc ?_ _)); exact BK330.out) hb); have n1_ := Aside0.mk (below_step (by repeat (first | (with_reducible first | exact HB.out | apply below_alloc | apply pw_below_drewN | apply below_drew1 | refine below_set ?_ GE330.out) | exact HB.out)) hb); clear BK330; clear HB; have BK330 := n0_; have HB := n1_; clear n0_ n1_; (try clear hb); (try clear hb2); (try clear hk); (try clear hi)))
    go_meet
    case rel => exact ⟨_, (!t332), (by first | rfl | (simp; done) | (simp [*]; done)), H', ⟨by first | omega | exact Nat.le_refl _⟩, ⟨by (with_reducible repeat (first | refine blk_drewN ?_ _ | refine blk_drew ?_ | refine blk_alloc ?_ _)); exact BK330.out⟩, ⟨by repeat (first | (with_reducible first | exact HB.out | apply below_alloc | apply pw_below_drewN | apply below_drew1 | refine below_set ?_ GE330.out) | exact HB.out)⟩⟩
  ·replace c7 := Bool.eq_false_iff.mpr c7
   subst c7
   have H1 : (quernlaw13_MovesCount.j0 k l0 false true a1_0 a1_1) = some r := by rw [if_neg (show ¬ (false = true) by decide)] at H; exact H
   clear H
   have H := H1
   clear H1
   have H' := Aside0.mk H
   clear H
   go_wp2
   go_meet
   case rel => exact ⟨_, (true), (by first | rfl | (simp; done) | (simp [*]; done)), H', ⟨by first | omega | exact Nat.le_refl _⟩, ⟨by (with_reducible repeat (first | refine blk_drewN ?_ _ | refine blk_drew ?_ | refine blk_alloc ?_ _)); exact BK330.out⟩, ⟨by repeat (first | (with_reducible first | exact HB.out | apply below_alloc | apply pw_below_drewN | apply below_drew1 | refine below_set ?_ GE330.out) | exact HB.out)⟩⟩
 case rest =>
  clear HC4
  try clear p2
  try clear c5
  try clear c7
  try clear c8
  try clear c8b0
  try clear c8b1
  try clear hcz10_0
  try clear hcz10_1
  try clear hfz10_0
  try clear hfz10_1
  obtain ⟨kq, x23_3, rfl, HA, HJ3, BK330, HB⟩ := hcut
  cases kq with
  | zero => exact absurd HA.out (by simp [quernlaw13_MovesCount.j0])
  | succ kj3 =>
   have H := HA.out
   clear HA
   simp only [quernlaw13_MovesCount.j0] at H
   by_cases c12 : x23_3 = true
   ·subst c12
    have H1 : (some t331) = some r := by rw [if_pos rfl] at H; exact H
    clear H
    have H := H1
    clear H1
    obtain rfl := Option.some.inj H
    go_wp2
    go_ret
    exact ⟨by first | rfl | (simp [errW_none, errW_some] <;> rfl) | (simp [*, errW_none, errW_some] <;> rfl), by repeat (first | (with_reducible first | exact HB.out | apply below_alloc | apply pw_below_drewN | apply below_drew1 | refine below_set ?_ GE330.out) | exact HB.out)⟩
   ·replace c12 := Bool.eq_false_iff.mpr c12
    subst c12
    have H1 : ((quernlaw13_lent.f l0).bind fun t333 => (if 0 ≤ (l0.length : Int) then (if (l0.length : Int) ≤ (t333.length : Int) then ((moves_Order.f kj3 (t333.take ((l0.length : Int) : Int).toNat) a1_0 a1_1).bind fun bt340 => ((quernlaw13_circles.f kj3 l0).bind fun t344 => (quernlaw13_MovesCount.l0 kj3 l0 bt340.1 bt340.2 t344 0))) else (none)) else (none))) = some r := by rw [if_neg (show ¬ (false = true) by decide)] at H; exact H
    clear H
    have H := H1
    clear H1
    replace H := Option.bind_eq_some_iff.mp H
    obtain ⟨t333, A130, H⟩ := H
    replace H : (if 0 ≤ (l0.length : Int) then (if (l0.length : Int) ≤ (t333.length : Int) then ((moves_Order.f kj3 (t333.take ((l0.length : Int) : Int).toNat) a1_0 a1_1).bind fun bt340 => ((quernlaw13_circles.f kj3 l0).bind fun t344 => (quernlaw13_MovesCount.l0 kj3 l0 bt340.1 bt340.2 t344 0))) else (none)) else (none)) = some r := H
    have A13 := Aside0.mk A130
    clear A130
    by_cases c14 : 0 ≤ (l0.length : Int)
    ·rw [if_pos c14] at H
     have c14b0 := eq_true c14
     have c14b1 : decide (0 ≤ (l0.length : Int)) = true := decide_eq_true c14
     clear c14
     by_cases c15 : (l0.length : Int) ≤ (t333.length : Int)
     ·rw [if_pos c15] at H
      have c15b0 := eq_true c15
      have c15b1 : decide ((l0.length : Int) ≤ (t333.length : Int)) = true := decide_eq_true c15
      clear c15
      obtain ⟨y336, hy336⟩ : ∃ y_ : List (S36), y_ = (t333.take ((l0.length : Int) : Int).toNat) := ⟨_, rfl⟩
      replace H : ((moves_Order.f kj3 y336 a1_0 a1_1).bind fun bt340 => ((quernlaw13_circles.f kj3 l0).bind fun t344 => (quernlaw13_MovesCount.l0 kj3 l0 bt340.1 bt340.2 t344 0))) = some r := by first | (rw [hy336]; with_reducible exact H) | (have H2_ := (Option.bind_some _ _).symm.trans H; rw [hy336]; with_reducible exact H2_) | (have H2_ := (Option.bind_some _ _).symm.trans H; with_reducible exact H2_) | with_reducible exact H | (rw [hy336]; exact H) | exact H
      have Ny336 := Aside0.mk hy336
      clear hy336
      replace H := Option.bind_eq_some_iff.mp H
      obtain ⟨⟨t340, t343⟩, A160, H⟩ := H
      replace H : ((quernlaw13_circles.f kj3 l0).bind fun t344 => (quernlaw13_MovesCount.l0 kj3 l0 t340 t343 t344 0)) = some r := H
      have A16 := Aside0.mk A160
      clear A160
      replace H := Option.bind_eq_some_iff.mp H
      obtain ⟨t344, A170, H⟩ := H
      replace H : (quernlaw13_MovesCount.l0 kj3 l0 t340 t343 t344 0) = some r := H
      have A17 := Aside0.mk A170
      clear A170
      have H' := Aside0.mk H
      clear H
      try go_wp2
      have n0_ := Aside0.mk (blk_drew BK330.out)
      have n1_ := Aside0.mk (below_drew1 HB.out)
      clear BK330
      clear HB
      have BK330 := n0_
      have HB := n1_
      clear n0_ n1_
      refine start_ (n := 12) (S := fun w' => w'.cell? ⟨gb330, 0, none⟩ = some (.int .i64 a1_0) ∧ w'.cell? ⟨gb330, 1, none⟩ = some (.int .i64 a1_1)) (ds := []) (bl 0 12) (by kernel_rfl) rfl rfl ⟨(blk_cell BK330.out 0).trans rfl, (blk_cell BK330.out 1).trans rfl⟩ (fun hHeld => ?_); refine with_tabW quernlaw13_MovesCount.tab4 quernlaw13_MovesCount.bits4 (fun HT_ HW_ => ?_)
      generalize wc.drew = w18 at BK330 HB hHeld ⊢
      refine pure_ (i := 0) (N := some 26) (v := ?_) (a' := ?_) (bl 1 12) rfl rfl (any_of HT_.out (by kernel_rfl)) (fun _ _ _ h => h) (Or.inl ⟨by rfl, ?_⟩) ?_ ?_
      rotate_left
      ·intro w'
       go_simp
       with_reducible rfl
      rotate_left
      ·simp only [Act.put, List.setIfInBounds_toArray, List.set_cons_zero, List.set_cons_succ, i64_w, i32_w]
       rfl
      refine pure_ (i := 2) (N := some 28) (v := ?_) (a' := ?_) #[true, false, true, false, false, false, false, false, false, false, false, false] rfl rfl (any_of HT_.out (by kernel_rfl)) (fun _ _ _ h => h) (Or.inl ⟨by rfl, ?_⟩) ?_ ?_
      rotate_left
      ·intro w'
       go_simp
       with_reducible rfl
      rotate_left
      ·simp only [Act.put, List.setIfInBounds_toArray, List.set_cons_zero, List.set_cons_succ, i64_w, i32_w]
       rfl
      refine pure_ (i := 3) (N := some 29) (v := ?_) (a' := ?_) #[true, false, true, true, false, false, false, false, false, false, false, false] rfl rfl (any_of HT_.out (by kernel_rfl)) (fun _ _ _ h => h) (Or.inl ⟨by rfl, ?_⟩) ?_ ?_
      rotate_left
      ·intro w'
       go_simp
       with_reducible rfl
      rotate_left
      ·simp only [Act.put, List.setIfInBounds_toArray, List.set_cons_zero, List.set_cons_succ, i64_w, i32_w]
       rfl
      refine take_ (i := 5) (N := some 31) (v := ?_) (a' := ?_) #[true, false, true, true, false, true, false, false, false, false, false, false] rfl rfl (take_ofW HT_.out HW_.out (by kernel_rfl)) (fun _ _ _ h => h) (Or.inl ⟨by rfl, ?_⟩) hHeld ?_ ?_
      rotate_left
      ·rintro w' ⟨s0, s1⟩
       go_simp
       with_reducible rfl
      rotate_left
      ·simp only [Act.put, List.setIfInBounds_toArray, List.set_cons_zero, List.set_cons_succ, i64_w, i32_w]
       rfl
      refine one_ (i := 1) (N := some 27) #[true, true, true, true, false, true, false, false, false, false, false, false] rfl rfl (one_of HT_.out (by kernel_rfl)) (by decide) (fun K hK => ?_)
      refine goes_ Try.func9 (by kernel_rfl) rfl #[.slice A0 l0.length c0] (by rfl) rfl rfl (by (try simp only [List.map_toArray, List.map_cons, List.map_nil]); first | done | rfl | (simp only [List.length_drop, List.length_take]; rfl)) ?_
      with_reducible refine (quernlaw13_lent.calls _ _ l0 t333 _ ?side1 ?side2 A13.out).mono ?_
      (case side1 => repeat (first | exact (Kd.C_below HR0.out HB.out) | (with_reducible refine Kd.C_alloc ?_ _) | (with_reducible refine Kd.C_drewN ?_ _) | (with_reducible refine Kd.C_drew ?_)))
      (case side2 => exact HC0.out)
      rintro e w19 ⟨v334, rfl, ho0, hb⟩
      refine ⟨_, rfl, ?_⟩
      have n0_ := Aside0.mk (Kd.R_lower ho0 (below_size (by repeat (first | (with_reducible first | exact HB.out | apply below_alloc | apply pw_below_drewN | apply below_drew1 | refine below_set ?_ GE330.out) | exact HB.out))))
      have n1_ := Aside0.mk (blk_below (g := gb330) (o := .cells #[.int .i64 a1_0, .int .i64 a1_1] 24 (0, 0)) (by (with_reducible repeat (first | refine blk_drewN ?_ _ | refine blk_drew ?_ | refine blk_alloc ?_ _)); exact BK330.out) hb)
      have n2_ := Aside0.mk (below_step (by repeat (first | (with_reducible first | exact HB.out | apply below_alloc | apply pw_below_drewN | apply below_drew1 | refine below_set ?_ GE330.out) | exact HB.out)) hb)
      clear BK330
      clear HB
      have HO335 := n0_
      have BK330 := n1_
      have HB := n2_
      clear n0_ n1_ n2_
      (try clear hb)
      (try clear hb2)
      (try clear hk)
      (try clear hi)
      (try clear ho0)
      obtain ⟨Ao21, co21, eo21⟩ := Kd.R_slice HO335.out
      (first | subst eo21 | (injection eo21 with f1_ f2_ f3_; have f4_ := f1_.symm; have f5_ := f3_.symm; clear f1_ f2_ f3_; subst f4_; subst f5_))
      have q20 : ((l0.length : Int) : Int) ≤ ((t333.length : Int) : Int) := of_decide_eq_true (by first | (with_reducible assumption) | assumption)
      obtain ⟨i020, hi020, _, hsz20, _⟩ := info_parts info36
      have hroom20 : t333.length ≤ co21 := (Kd.R_reads' HO335.out).2.1
      have hC20 : Kd.C k36 _ Ao21 t333.length t333 := (Kd.R_reads' HO335.out).2.2
      have hcut20 := cut_to (P := Try.prog) 22 36 .i64 Try.underlying22 hi020 Ao21 t333.length co21 (l0.length : Int) (of_decide_eq_true (by first | (with_reducible assumption) | assumption)) q20 hroom20
      have hr20 := Kd.C_take (m := ((l0.length : Int) : Int).toNat) hC20 (by omega)
      have hy20 : y336.length = ((l0.length : Int) : Int).toNat := (by rw [Ny336.out, List.length_take]; omega)
      rw [← Ny336.out] at hr20
      rw [← hy20] at hcut20
      have HR339 := Aside0.mk hr20
      have HC339 := Aside0.mk (show y336.length ≤ co21 from by omega)
      clear hr20 hC20 hroom20 hi020 hsz20
      have KY20 := Aside0.mk hy20
      clear hy20
      have KL20 := Aside0.mk (show ((l0.length : Int) : Int).toNat ≤ t333.length from by omega)
      replace q20 := eq_true q20
      refine hK.out _ _ ⟨(blk_cell BK330.out 0).trans rfl, (blk_cell BK330.out 1).trans rfl⟩ (fun hHeld => ?_)
      clear hK K
      refine norm_ (a' := ?_) ?_ ?_
      rotate_left
      ·show Act.put _ (some 27) _ = _
       simp only [Act.put, List.setIfInBounds_toArray, List.set_cons_zero, List.set_cons_succ, i64_w, i32_w]
       rfl
      refine pure_ (i := 4) (N := some 30) (v := ?_) (a' := ?_) (bl 6 12) rfl rfl (any_of HT_.out (by kernel_rfl)) (fun _ _ _ h => h) (Or.inl ⟨by rfl, ?_⟩) ?_ ?_
      rotate_left
      ·intro w'
       go_simp
       with_reducible rfl
      rotate_left
      ·simp only [Act.put, List.setIfInBounds_toArray, List.set_cons_zero, List.set_cons_succ, i64_w, i32_w]
       rfl
      refine one_ (i := 6) (N := some 32) (bl 7 12) rfl rfl (one_of HT_.out (by kernel_rfl)) (by decide) (fun K hK => ?_)
      refine goes_ Try.func10 (by kernel_rfl) rfl #[.slice Ao21 y336.length co21, .agg #[.int .i64 a1_0, .int .i64 a1_1]] (by rfl) rfl rfl (by (try simp only [List.map_toArray, List.map_cons, List.map_nil]); first | done | rfl | (simp only [List.length_drop, List.length_take]; rfl)) ?_
      with_reducible refine (moves_Order.calls kj3 _ _ y336 a1_0 a1_1 t340 t343 _ ?side1 ?side2 A16.out).mono ?_
      (case side1 => repeat (first | exact (by repeat (first | (with_reducible exact HR339.out) | (with_reducible refine Kd.C_alloc ?_ _) | (with_reducible refine Kd.C_drewN ?_ _) | (with_reducible refine Kd.C_drew ?_) | exact HR339.out)) | (with_reducible refine Kd.C_alloc ?_ _) | (with_reducible refine Kd.C_drewN ?_ _) | (with_reducible refine Kd.C_drew ?_)))
      (case side2 => exact HC339.out)
      rintro e w22 ⟨v341, rfl, ho0, hb⟩
      refine ⟨_, rfl, ?_⟩
      have n0_ := Aside0.mk (Kd.R_elder' (by (with_reducible repeat (first | apply Kd.R_alloc | apply Kd.R_drewN | apply Kd.R_drew)); exact HO335.out) (Kd.R_base ho0) hb)
      have n1_ := Aside0.mk (Kd.R_lower (Kd.R_new' ho0 (Kd.R_lt (by (with_reducible repeat (first | apply Kd.R_alloc | apply Kd.R_drewN | apply Kd.R_drew)); exact HO335.out))) (below_size (by repeat (first | (with_reducible first | exact HB.out | apply below_alloc | apply pw_below_drewN | apply below_drew1 | refine below_set ?_ GE330.out) | exact HB.out))))
      have n2_ := Aside0.mk (blk_below (g := gb330) (o := .cells #[.int .i64 a1_0, .int .i64 a1_1] 24 (0, 0)) (by (with_reducible repeat (first | refine blk_drewN ?_ _ | refine blk_drew ?_ | refine blk_alloc ?_ _)); exact BK330.out) hb)
      have n3_ := Aside0.mk (Kd.C_below (by repeat (first | (with_reducible exact HR339.out) | (with_reducible refine Kd.C_alloc ?_ _) | (with_reducible refine Kd.C_drewN ?_ _) | (with_reducible refine Kd.C_drew ?_) | exact HR339.out)) hb)
      have n4_ := Aside0.mk (below_step (by repeat (first | (with_reducible first | exact HB.out | apply below_alloc | apply pw_below_drewN | apply below_drew1 | refine below_set ?_ GE330.out) | exact HB.out)) hb)
      clear HO335
      clear BK330
      clear HR339
      clear HB
      have HO335 := n0_
      have HO342 := n1_
      have BK330 := n2_
      have HR339 := n3_
      have HB := n4_
      clear n0_ n1_ n2_ n3_ n4_
      (try clear hb)
      (try clear hb2)
      (try clear hk)
      (try clear hi)
      (try clear ho0)
      refine hK.out _ _ ⟨(blk_cell BK330.out 0).trans rfl, (blk_cell BK330.out 1).trans rfl⟩ (fun hHeld => ?_)
      clear hK K
      refine norm_ (a' := ?_) ?_ ?_
      rotate_left
      ·show Act.put _ (some 32) _ = _
       simp only [Act.put, List.setIfInBounds_toArray, List.set_cons_zero, List.set_cons_succ, i64_w, i32_w]
       rfl
      refine pure_ (i := 7) (N := some 25) (v := ?_) (a' := ?_) (bl 8 12) rfl rfl (any_of HT_.out (by kernel_rfl)) (fun _ _ _ h => h) (Or.inl ⟨by rfl, ?_⟩) ?_ ?_
      rotate_left
      ·intro w'
       go_simp
       with_reducible rfl
      rotate_left
      ·simp only [Act.put, List.setIfInBounds_toArray, List.set_cons_zero, List.set_cons_succ, i64_w, i32_w]
       rfl
      refine pure_ (i := 8) (N := some 33) (v := ?_) (a' := ?_) (bl 9 12) rfl rfl (any_of HT_.out (by kernel_rfl)) (fun _ _ _ h => h) (Or.inl ⟨by rfl, ?_⟩) ?_ ?_
      rotate_left
      ·intro w'
       go_simp
       with_reducible rfl
      rotate_left
      ·simp only [Act.put, List.setIfInBounds_toArray, List.set_cons_zero, List.set_cons_succ, i64_w, i32_w]
       rfl
      refine pure_ (i := 9) (N := some 34) (v := ?_) (a' := ?_) (bl 10 12) rfl rfl (any_of HT_.out (by kernel_rfl)) (fun _ _ _ h => h) (Or.inl ⟨by rfl, ?_⟩) ?_ ?_
      rotate_left
      ·intro w'
       go_simp
       with_reducible rfl
      rotate_left
      ·simp only [Act.put, List.setIfInBounds_toArray, List.set_cons_zero, List.set_cons_succ, i64_w, i32_w]
       rfl
      refine pure_ (i := 10) (N := some 6) (v := ?_) (a' := ?_) (bl 11 12) rfl rfl (any_of HT_.out (by kernel_rfl)) (fun _ _ _ h => h) (Or.inl ⟨by rfl, ?_⟩) ?_ ?_
      rotate_left
      ·intro w'
       go_simp
       with_reducible rfl
      rotate_left
      ·simp only [Act.put, List.setIfInBounds_toArray, List.set_cons_zero, List.set_cons_succ, i64_w, i32_w]
       rfl
      refine pure_ (i := 11) (N := some 7) (v := ?_) (a' := ?_) (bl 12 12) rfl rfl (any_of HT_.out (by kernel_rfl)) (fun _ _ _ h => h) (Or.inl ⟨by rfl, ?_⟩) ?_ ?_
      rotate_left
      ·intro w'
       go_simp
       with_reducible rfl
      rotate_left
      ·simp only [Act.put, List.setIfInBounds_toArray, List.set_cons_zero, List.set_cons_succ, i64_w, i32_w]
       rfl
      refine done_ (done_of HT_.out (by kernel_rfl)) ?_
      try go_wp2_with (first | ((with_reducible refine gate_callee (f := 16) rfl ?_); refine goesL_ (some 36) rfl rfl Try.func16 (by kernel_rfl) rfl #[.slice A0 l0.length c0] rfl (by (try simp only [List.map_toArray, List.map_cons, List.map_nil]); first | done | rfl | (simp only [List.length_drop, List.length_take]; rfl)) ?_; (with_reducible refine (quernlaw13_circles.calls kj3 _ _ l0 t344 _ ?side1 ?side2 A17.out).mono ?_); (case side1 => repeat (first | exact (Kd.C_below HR0.out HB.out) | (with_reducible refine Kd.C_alloc ?_ _) | (with_reducible refine Kd.C_drewN ?_ _) | (with_reducible refine Kd.C_drew ?_))); (case side2 => exact HC0.out); rintro e w' ⟨rfl, ⟨nd, rfl⟩⟩; refine ⟨_, rfl, ?_⟩))
      go_loopg [8, 9] kj3 (fun kq v8 v9 w' => ∃ (x8_2 : Int) (x9_2 : Int), v8 = .int .i64 x8_2 ∧ v9 = .int .i64 x9_2 ∧ Aside0 (quernlaw13_MovesCount.l0 kq l0 t340 t343 x8_2 x9_2 = some r) ∧ Aside0 (kq ≤ kj3) ∧ Aside0 (Kd.R k36 36 w' w.heap.size (fun _ => True) v341 t340) ∧ Aside0 (w'.heap[gb330]? = some (.cells #[.int .i64 a1_0, .int .i64 a1_1] 24 (0, 0))) ∧ Aside0 (Kd.C k36 w' Ao21 y336.length y336) ∧ Aside0 (Below w.heap.size w w'))
      case atStart => exact ⟨(t344), (0), (by first | rfl | (simp; done) | (simp [*]; done)), (by first | rfl | (simp; done) | (simp [*]; done)), H', ⟨Nat.le_refl _⟩, ⟨by (with_reducible repeat (first | apply Kd.R_alloc | apply Kd.R_drewN | apply Kd.R_drew)); exact Kd.R_mono HO342.out (fun _ hk => trivial)⟩, ⟨by (with_reducible repeat (first | refine blk_drewN ?_ _ | refine blk_drew ?_ | refine blk_alloc ?_ _)); exact BK330.out⟩, ⟨by repeat (first | (with_reducible exact HR339.out) | (with_reducible refine Kd.C_alloc ?_ _) | (with_reducible refine Kd.C_drewN ?_ _) | (with_reducible refine Kd.C_drew ?_) | exact HR339.out)⟩, ⟨by repeat (first | (with_reducible first | exact HB.out | apply below_alloc | apply pw_below_drewN | apply below_drew1 | refine below_set ?_ GE330.out) | exact HB.out)⟩⟩
      case round =>
       clear H'
       try clear c1
       try clear p2
       try clear q2
       try clear c5
       try clear c7
       try clear c8
       try clear c8b0
       try clear c8b1
       try clear c9
       try clear c10
       try clear c12
       try clear c14
       try clear c14b0
       try clear c14b1
       try clear c15
       try clear c15b0
       try clear c15b1
       try clear c16
       try clear q20
       try clear hcz10_0
       try clear hcz10_1
       try clear hfz10_0
       try clear hfz10_1
       try clear p2
       try clear q20
       obtain ⟨x8_2, x9_2, rfl, rfl, HA, HK2, HO_6, BK330, HR339, HB⟩ := hrel
       cases gk with
       | zero => exact absurd HA.out (by simp [quernlaw13_MovesCount.l0])
       | succ k2 =>
        have H := HA.out
        clear HA
        simp only [quernlaw13_MovesCount.l0] at H
        by_cases c23 : x9_2 < (l0.length : Int)
        ·rw [if_pos c23] at H
         have c23b0 : decide (x9_2 < (l0.length : Int)) = true := decide_eq_true c23
         clear c23
         by_cases c24 : 0 ≤ x9_2
         ·rw [if_pos c24] at H
          have c24b0 : decide (0 ≤ x9_2) = true := decide_eq_true c24
          clear c24
          by_cases c25 : (!(((rd_T36 l0 x9_2).f1.f0) == ((rd_T36 l0 x9_2).f0.f0)) || (!(((rd_T36 l0 x9_2).f1.f1) == ((rd_T36 l0 x9_2).f0.f1)))) = true
          ·rw [if_pos c25] at H
           have c25b0 : (!(((rd_T36 l0 x9_2).f1.f0) == ((rd_T36 l0 x9_2).f0.f0)) || (!(((rd_T36 l0 x9_2).f1.f1) == ((rd_T36 l0 x9_2).f0.f1)))) = true := c25
           clear c25
           have H' := Aside0.mk H
           clear H
           try go_wp2
           have n0_ := Aside0.mk (Kd.R_drew HO_6.out)
           have n1_ := Aside0.mk (blk_drew BK330.out)
           have n2_ := Aside0.mk (Kd.C_drew HR339.out)
           have n3_ := Aside0.mk (below_drew1 HB.out)
           clear HO_6
           clear BK330
           clear HR339
           clear HB
           have HO_6 := n0_
           have BK330 := n1_
           have HR339 := n2_
           have HB := n3_
           clear n0_ n1_ n2_ n3_
           have p345 : 0 ≤ (x9_2 : Int) := of_decide_eq_true (by first | (with_reducible assumption) | assumption)
           have q345 : x9_2 < (l0.length : Int) := of_decide_eq_true (by first | (with_reducible assumption) | assumption)
           obtain ⟨ad345, e345, hx345_0, hx345_1, hx345_2, hx345_3⟩ := at_T36 HR0.out x9_2 p345 q345
           have hw345_3 := hx345_3
           have hw345_2 := hx345_2
           have hw345_1 := hx345_1
           have hw345_0 := hx345_0
           cases e345
           replace hx345_0 := cellA HB hx345_0
           replace hx345_1 := cellA HB hx345_1
           replace hx345_2 := cellA HB hx345_2
           replace hx345_3 := cellA HB hx345_3
           replace p345 := eq_true p345
           replace q345 := eq_true q345
           have p346 : 0 ≤ (x9_2 : Int) := of_decide_eq_true (by first | (with_reducible assumption) | assumption)
           have q346 : x9_2 < (l0.length : Int) := of_decide_eq_true (by first | (with_reducible assumption) | assumption)
           obtain ⟨ad346, e346, hx346_0, hx346_1, hx346_2, hx346_3⟩ := at_T36 HR0.out x9_2 p346 q346
           have hw346_3 := hx346_3
           have hw346_2 := hx346_2
           have hw346_1 := hx346_1
           have hw346_0 := hx346_0
           obtain rfl : ad345 = ad346 := (by injection e346)
           replace hx346_0 := cellA HB hx346_0
           replace hx346_1 := cellA HB hx346_1
           replace hx346_2 := cellA HB hx346_2
           replace hx346_3 := cellA HB hx346_3
           replace p346 := eq_true p346
           replace q346 := eq_true q346
           refine start_ (n := 11) (S := fun w' => w'.cell? (ad345.add ((x9_2).toNat * 4)) = some (.int .i64 ((rd_T36 l0 x9_2).f0.f0)) ∧ w'.cell? ⟨(ad345.add ((x9_2).toNat * 4)).block, (ad345.add ((x9_2).toNat * 4)).off + 1, none⟩ = some (.int .i64 ((rd_T36 l0 x9_2).f0.f1)) ∧ w'.cell? ⟨(ad345.add ((x9_2).toNat * 4)).block, (ad345.add ((x9_2).toNat * 4)).off + 2, none⟩ = some (.int .i64 ((rd_T36 l0 x9_2).f1.f0)) ∧ w'.cell? ⟨(ad345.add ((x9_2).toNat * 4)).block, (ad345.add ((x9_2).toNat * 4)).off + 3, none⟩ = some (.int .i64 ((rd_T36 l0 x9_2).f1.f1)) ∧ w'.cell? (ad345.add ((x9_2).toNat * 4)) = some (.int .i64 ((rd_T36 l0 x9_2).f0.f0)) ∧ w'.cell? ⟨(ad345.add ((x9_2).toNat * 4)).block, (ad345.add ((x9_2).toNat * 4)).off + 1, none⟩ = some (.int .i64 ((rd_T36 l0 x9_2).f0.f1)) ∧ w'.cell? ⟨(ad345.add ((x9_2).toNat * 4)).block, (ad345.add ((x9_2).toNat * 4)).off + 2, none⟩ = some (.int .i64 ((rd_T36 l0 x9_2).f1.f0)) ∧ w'.cell? ⟨(ad345.add ((x9_2).toNat * 4)).block, (ad345.add ((x9_2).toNat * 4)).off + 3, none⟩ = some (.int .i64 ((rd_T36 l0 x9_2).f1.f1))) (ds := []) (bl 0 11) (by kernel_rfl) rfl rfl ⟨(cellA HB hw345_0), (cellA HB hw345_1), (cellA HB hw345_2), (cellA HB hw345_3), (cellA HB hw346_0), (cellA HB hw346_1), (cellA HB hw346_2), (cellA HB hw346_3)⟩ (fun hHeld => ?_); refine with_tabW quernlaw13_MovesCount.tab9 quernlaw13_MovesCount.bits9 (fun HT_ HW_ => ?_)
           generalize wr.drew = w26 at HO_6 BK330 HR339 HB hx345_0 hx345_1 hx345_2 hx345_3 hx346_0 hx346_1 hx346_2 hx346_3 hHeld ⊢
           refine pure_ (i := 0) (N := some 43) (v := ?_) (a' := ?_) (bl 1 11) rfl rfl (any_of HT_.out (by kernel_rfl)) (fun _ _ _ h => h) (Or.inl ⟨by rfl, ?_⟩) ?_ ?_
           rotate_left
           ·intro w'
            go_simp
            with_reducible rfl
           rotate_left
           ·simp only [Act.put, List.setIfInBounds_toArray, List.set_cons_zero, List.set_cons_succ, i64_w, i32_w]
            rfl
           refine pure_ (i := 1) (N := some 44) (v := ?_) (a' := ?_) (bl 2 11) rfl rfl (any_of HT_.out (by kernel_rfl)) (fun _ _ _ h => h) (Or.inl ⟨by rfl, ?_⟩) ?_ ?_
           rotate_left
           ·intro w'
            go_simp
            with_reducible rfl
           rotate_left
           ·simp only [Act.put, List.setIfInBounds_toArray, List.set_cons_zero, List.set_cons_succ, i64_w, i32_w]
            rfl
           refine pure_ (i := 2) (N := some 45) (v := ?_) (a' := ?_) (bl 3 11) rfl rfl (any_of HT_.out (by kernel_rfl)) (fun _ _ _ h => h) (Or.inl ⟨by rfl, ?_⟩) ?_ ?_
           rotate_left
           ·intro w'
            go_simp
            with_reducible rfl
           rotate_left
           ·simp only [Act.put, List.setIfInBounds_toArray, List.set_cons_zero, List.set_cons_succ, i64_w, i32_w]
            rfl
           refine pure_ (i := 3) (N := some 46) (v := ?_) (a' := ?_) (bl 4 11) rfl rfl (any_of HT_.out (by kernel_rfl)) (fun _ _ _ h => h) (Or.inl ⟨by rfl, ?_⟩) ?_ ?_
           rotate_left
           ·intro w'
            go_simp
            with_reducible rfl
           rotate_left
           ·simp only [Act.put, List.setIfInBounds_toArray, List.set_cons_zero, List.set_cons_succ, i64_w, i32_w]
            rfl
           refine pure_ (i := 5) (N := some 48) (v := ?_) (a' := ?_) #[true, true, true, true, false, true, false, false, false, false, false] rfl rfl (any_of HT_.out (by kernel_rfl)) (fun _ _ _ h => h) (Or.inl ⟨by rfl, ?_⟩) ?_ ?_
           rotate_left
           ·intro w'
            go_simp
            with_reducible rfl
           rotate_left
           ·simp only [Act.put, List.setIfInBounds_toArray, List.set_cons_zero, List.set_cons_succ, i64_w, i32_w]
            rfl
           refine pure_ (i := 6) (N := some 49) (v := ?_) (a' := ?_) #[true, true, true, true, false, true, true, false, false, false, false] rfl rfl (any_of HT_.out (by kernel_rfl)) (fun _ _ _ h => h) (Or.inl ⟨by rfl, ?_⟩) ?_ ?_
           rotate_left
           ·intro w'
            go_simp
            with_reducible rfl
           rotate_left
           ·simp only [Act.put, List.setIfInBounds_toArray, List.set_cons_zero, List.set_cons_succ, i64_w, i32_w]
            rfl
           refine pure_ (i := 7) (N := some 50) (v := ?_) (a' := ?_) #[true, true, true, true, false, true, true, true, false, false, false] rfl rfl (any_of HT_.out (by kernel_rfl)) (fun _ _ _ h => h) (Or.inl ⟨by rfl, ?_⟩) ?_ ?_
           rotate_left
           ·intro w'
            go_simp
            with_reducible rfl
           rotate_left
           ·simp only [Act.put, List.setIfInBounds_toArray, List.set_cons_zero, List.set_cons_succ, i64_w, i32_w]
            rfl
           refine pure_ (i := 8) (N := some 51) (v := ?_) (a' := ?_) #[true, true, true, true, false, true, true, true, true, false, false] rfl rfl (any_of HT_.out (by kernel_rfl)) (fun _ _ _ h => h) (Or.inl ⟨by rfl, ?_⟩) ?_ ?_
           rotate_left
           ·intro w'
            go_simp
            with_reducible rfl
           rotate_left
           ·simp only [Act.put, List.setIfInBounds_toArray, List.set_cons_zero, List.set_cons_succ, i64_w, i32_w]
            rfl
           refine take_ (i := 4) (N := some 47) (v := ?_) (a' := ?_) (bl 9 11) rfl rfl (take_ofW HT_.out HW_.out (by kernel_rfl)) (fun _ _ _ h => h) (Or.inl ⟨by rfl, ?_⟩) hHeld ?_ ?_
           rotate_left
           ·rintro w' ⟨s0, s1, s2, s3, s4, s5, s6, s7⟩
            go_simp
            with_reducible rfl
           rotate_left
           ·simp only [Act.put, List.setIfInBounds_toArray, List.set_cons_zero, List.set_cons_succ, i64_w, i32_w]
            rfl
           refine take_ (i := 9) (N := some 52) (v := ?_) (a' := ?_) (bl 10 11) rfl rfl (take_ofW HT_.out HW_.out (by kernel_rfl)) (fun _ _ _ h => h) (Or.inl ⟨by rfl, ?_⟩) hHeld ?_ ?_
           rotate_left
           ·rintro w' ⟨s0, s1, s2, s3, s4, s5, s6, s7⟩
            go_simp
            with_reducible rfl
           rotate_left
           ·simp only [Act.put, List.setIfInBounds_toArray, List.set_cons_zero, List.set_cons_succ, i64_w, i32_w]
            rfl
           refine pure_ (i := 10) (N := some 53) (v := ?_) (a' := ?_) (bl 11 11) rfl rfl (any_of HT_.out (by kernel_rfl)) (fun _ _ _ h => h) (Or.inl ⟨by rfl, ?_⟩) ?_ ?_
           rotate_left
           ·intro w'
            go_simp
            with_reducible rfl
           rotate_left
           ·simp only [Act.put, List.setIfInBounds_toArray, List.set_cons_zero, List.set_cons_succ, i64_w, i32_w]
            rfl
           refine done_ (done_of HT_.out (by kernel_rfl)) ?_
           try go_wp2
           go_roundg k2
           case measure => have := HJ3.out; have := HK2.out; omega
           case rel => exact ⟨(wrap64 (x8_2 + 1)), (wrap64 (x9_2 + 1)), (by first | rfl | (simp; done) | (simp [*]; done)), (by first | rfl | (simp; done) | (simp [*]; done)), H', ⟨by have := HJ3.out; have := HK2.out; omega⟩, ⟨by (with_reducible repeat (first | apply Kd.R_alloc | apply Kd.R_drewN | apply Kd.R_drew)); exact HO_6.out⟩, ⟨by (with_reducible repeat (first | refine blk_drewN ?_ _ | refine blk_drew ?_ | refine blk_alloc ?_ _)); exact BK330.out⟩, ⟨by repeat (first | (with_reducible exact HR339.out) | (with_reducible refine Kd.C_alloc ?_ _) | (with_reducible refine Kd.C_drewN ?_ _) | (with_reducible refine Kd.C_drew ?_) | exact HR339.out)⟩, ⟨by repeat (first | (with_reducible first | exact HB.out | apply below_alloc | apply pw_below_drewN | apply below_drew1 | refine below_set ?_ GE330.out) | exact HB.out)⟩⟩
          ·rw [if_neg c25] at H
           have c25b0 : (!(((rd_T36 l0 x9_2).f1.f0) == ((rd_T36 l0 x9_2).f0.f0)) || (!(((rd_T36 l0 x9_2).f1.f1) == ((rd_T36 l0 x9_2).f0.f1)))) = false := by simpa using c25
           clear c25
           have H' := Aside0.mk H
           clear H
           try go_wp2
           have n0_ := Aside0.mk (Kd.R_drew HO_6.out)
           have n1_ := Aside0.mk (blk_drew BK330.out)
           have n2_ := Aside0.mk (Kd.C_drew HR339.out)
           have n3_ := Aside0.mk (below_drew1 HB.out)
           clear HO_6
           clear BK330
           clear HR339
           clear HB
           have HO_6 := n0_
           have BK330 := n1_
           have HR339 := n2_
           have HB := n3_
           clear n0_ n1_ n2_ n3_
           have p345 : 0 ≤ (x9_2 : Int) := of_decide_eq_true (by first | (with_reducible assumption) | assumption)
           have q345 : x9_2 < (l0.length : Int) := of_decide_eq_true (by first | (with_reducible assumption) | assumption)
           obtain ⟨ad345, e345, hx345_0, hx345_1, hx345_2, hx345_3⟩ := at_T36 HR0.out x9_2 p345 q345
           have hw345_3 := hx345_3
           have hw345_2 := hx345_2
           have hw345_1 := hx345_1
           have hw345_0 := hx345_0
           cases e345
           replace hx345_0 := cellA HB hx345_0
           replace hx345_1 := cellA HB hx345_1
           replace hx345_2 := cellA HB hx345_2
           replace hx345_3 := cellA HB hx345_3
           replace p345 := eq_true p345
           replace q345 := eq_true q345
           have p346 : 0 ≤ (x9_2 : Int) := of_decide_eq_true (by first | (with_reducible assumption) | assumption)
           have q346 : x9_2 < (l0.length : Int) := of_decide_eq_true (by first | (with_reducible assumption) | assumption)
           obtain ⟨ad346, e346, hx346_0, hx346_1, hx346_2, hx346_3⟩ := at_T36 HR0.out x9_2 p346 q346
           have hw346_3 := hx346_3
           have hw346_2 := hx346_2
           have hw346_1 := hx346_1
           have hw346_0 := hx346_0
           obtain rfl : ad345 = ad346 := (by injection e346)
           replace hx346_0 := cellA HB hx346_0
           replace hx346_1 := cellA HB hx346_1
           replace hx346_2 := cellA HB hx346_2
           replace hx346_3 := cellA HB hx346_3
           replace p346 := eq_true p346
           replace q346 := eq_true q346
           refine start_ (n := 11) (S := fun w' => w'.cell? (ad345.add ((x9_2).toNat * 4)) = some (.int .i64 ((rd_T36 l0 x9_2).f0.f0)) ∧ w'.cell? ⟨(ad345.add ((x9_2).toNat * 4)).block, (ad345.add ((x9_2).toNat * 4)).off + 1, none⟩ = some (.int .i64 ((rd_T36 l0 x9_2).f0.f1)) ∧ w'.cell? ⟨(ad345.add ((x9_2).toNat * 4)).block, (ad345.add ((x9_2).toNat * 4)).off + 2, none⟩ = some (.int .i64 ((rd_T36 l0 x9_2).f1.f0)) ∧ w'.cell? ⟨(ad345.add ((x9_2).toNat * 4)).block, (ad345.add ((x9_2).toNat * 4)).off + 3, none⟩ = some (.int .i64 ((rd_T36 l0 x9_2).f1.f1)) ∧ w'.cell? (ad345.add ((x9_2).toNat * 4)) = some (.int .i64 ((rd_T36 l0 x9_2).f0.f0)) ∧ w'.cell? ⟨(ad345.add ((x9_2).toNat * 4)).block, (ad345.add ((x9_2).toNat * 4)).off + 1, none⟩ = some (.int .i64 ((rd_T36 l0 x9_2).f0.f1)) ∧ w'.cell? ⟨(ad345.add ((x9_2).toNat * 4)).block, (ad345.add ((x9_2).toNat * 4)).off + 2, none⟩ = some (.int .i64 ((rd_T36 l0 x9_2).f1.f0)) ∧ w'.cell? ⟨(ad345.add ((x9_2).toNat * 4)).block, (ad345.add ((x9_2).toNat * 4)).off + 3, none⟩ = some (.int .i64 ((rd_T36 l0 x9_2).f1.f1))) (ds := []) (bl 0 11) (by kernel_rfl) rfl rfl ⟨(cellA HB hw345_0), (cellA HB hw345_1), (cellA HB hw345_2), (cellA HB hw345_3), (cellA HB hw346_0), (cellA HB hw346_1), (cellA HB hw346_2), (cellA HB hw346_3)⟩ (fun hHeld => ?_); refine with_tabW quernlaw13_MovesCount.tab9 quernlaw13_MovesCount.bits9 (fun HT_ HW_ => ?_)
           generalize wr.drew = w27 at HO_6 BK330 HR339 HB hx345_0 hx345_1 hx345_2 hx345_3 hx346_0 hx346_1 hx346_2 hx346_3 hHeld ⊢
           refine pure_ (i := 0) (N := some 43) (v := ?_) (a' := ?_) (bl 1 11) rfl rfl (any_of HT_.out (by kernel_rfl)) (fun _ _ _ h => h) (Or.inl ⟨by rfl, ?_⟩) ?_ ?_
           rotate_left
           ·intro w'
            go_simp
            with_reducible rfl
           rotate_left
           ·simp only [Act.put, List.setIfInBounds_toArray, List.set_cons_zero, List.set_cons_succ, i64_w, i32_w]
            rfl
           refine pure_ (i := 1) (N := some 44) (v := ?_) (a' := ?_) (bl 2 11) rfl rfl (any_of HT_.out (by kernel_rfl)) (fun _ _ _ h => h) (Or.inl ⟨by rfl, ?_⟩) ?_ ?_
           rotate_left
           ·intro w'
            go_simp
            with_reducible rfl
           rotate_left
           ·simp only [Act.put, List.setIfInBounds_toArray, List.set_cons_zero, List.set_cons_succ, i64_w, i32_w]
            rfl
           refine pure_ (i := 2) (N := some 45) (v := ?_) (a' := ?_) (bl 3 11) rfl rfl (any_of HT_.out (by kernel_rfl)) (fun _ _ _ h => h) (Or.inl ⟨by rfl, ?_⟩) ?_ ?_
           rotate_left
           ·intro w'
            go_simp
            with_reducible rfl
           rotate_left
           ·simp only [Act.put, List.setIfInBounds_toArray, List.set_cons_zero, List.set_cons_succ, i64_w, i32_w]
            rfl
           refine pure_ (i := 3) (N := some 46) (v := ?_) (a' := ?_) (bl 4 11) rfl rfl (any_of HT_.out (by kernel_rfl)) (fun _ _ _ h => h) (Or.inl ⟨by rfl, ?_⟩) ?_ ?_
           rotate_left
           ·intro w'
            go_simp
            with_reducible rfl
           rotate_left
           ·simp only [Act.put, List.setIfInBounds_toArray, List.set_cons_zero, List.set_cons_succ, i64_w, i32_w]
            rfl
           refine pure_ (i := 5) (N := some 48) (v := ?_) (a' := ?_) #[true, true, true, true, false, true, false, false, false, false, false] rfl rfl (any_of HT_.out (by kernel_rfl)) (fun _ _ _ h => h) (Or.inl ⟨by rfl, ?_⟩) ?_ ?_
           rotate_left
           ·intro w'
            go_simp
            with_reducible rfl
           rotate_left
           ·simp only [Act.put, List.setIfInBounds_toArray, List.set_cons_zero, List.set_cons_succ, i64_w, i32_w]
            rfl
           refine pure_ (i := 6) (N := some 49) (v := ?_) (a' := ?_) #[true, true, true, true, false, true, true, false, false, false, false] rfl rfl (any_of HT_.out (by kernel_rfl)) (fun _ _ _ h => h) (Or.inl ⟨by rfl, ?_⟩) ?_ ?_
           rotate_left
           ·intro w'
            go_simp
            with_reducible rfl
           rotate_left
           ·simp only [Act.put, List.setIfInBounds_toArray, List.set_cons_zero, List.set_cons_succ, i64_w, i32_w]
            rfl
           refine pure_ (i := 7) (N := some 50) (v := ?_) (a' := ?_) #[true, true, true, true, false, true, true, true, false, false, false] rfl rfl (any_of HT_.out (by kernel_rfl)) (fun _ _ _ h => h) (Or.inl ⟨by rfl, ?_⟩) ?_ ?_
           rotate_left
           ·intro w'
            go_simp
            with_reducible rfl
           rotate_left
           ·simp only [Act.put, List.setIfInBounds_toArray, List.set_cons_zero, List.set_cons_succ, i64_w, i32_w]
            rfl
           refine pure_ (i := 8) (N := some 51) (v := ?_) (a' := ?_) #[true, true, true, true, false, true, true, true, true, false, false] rfl rfl (any_of HT_.out (by kernel_rfl)) (fun _ _ _ h => h) (Or.inl ⟨by rfl, ?_⟩) ?_ ?_
           rotate_left
           ·intro w'
            go_simp
            with_reducible rfl
           rotate_left
           ·simp only [Act.put, List.setIfInBounds_toArray, List.set_cons_zero, List.set_cons_succ, i64_w, i32_w]
            rfl
           refine take_ (i := 4) (N := some 47) (v := ?_) (a' := ?_) (bl 9 11) rfl rfl (take_ofW HT_.out HW_.out (by kernel_rfl)) (fun _ _ _ h => h) (Or.inl ⟨by rfl, ?_⟩) hHeld ?_ ?_
           rotate_left
           ·rintro w' ⟨s0, s1, s2, s3, s4, s5, s6, s7⟩
            go_simp
            with_reducible rfl
           rotate_left
           ·simp only [Act.put, List.setIfInBounds_toArray, List.set_cons_zero, List.set_cons_succ, i64_w, i32_w]
            rfl
           refine take_ (i := 9) (N := some 52) (v := ?_) (a' := ?_) (bl 10 11) rfl rfl (take_ofW HT_.out HW_.out (by kernel_rfl)) (fun _ _ _ h => h) (Or.inl ⟨by rfl, ?_⟩) hHeld ?_ ?_
           rotate_left
           ·rintro w' ⟨s0, s1, s2, s3, s4, s5, s6, s7⟩
            go_simp
            with_reducible rfl
           rotate_left
           ·simp only [Act.put, List.setIfInBounds_toArray, List.set_cons_zero, List.set_cons_succ, i64_w, i32_w]
            rfl
           refine pure_ (i := 10) (N := some 53) (v := ?_) (a' := ?_) (bl 11 11) rfl rfl (any_of HT_.out (by kernel_rfl)) (fun _ _ _ h => h) (Or.inl ⟨by rfl, ?_⟩) ?_ ?_
           rotate_left
           ·intro w'
            go_simp
            with_reducible rfl
           rotate_left
           ·simp only [Act.put, List.setIfInBounds_toArray, List.set_cons_zero, List.set_cons_succ, i64_w, i32_w]
            rfl
           refine done_ (done_of HT_.out (by kernel_rfl)) ?_
           try go_wp2
           go_roundg k2
           case measure => have := HJ3.out; have := HK2.out; omega
           case rel => exact ⟨(x8_2), (wrap64 (x9_2 + 1)), (by first | rfl | (simp; done) | (simp [*]; done)), (by first | rfl | (simp; done) | (simp [*]; done)), H', ⟨by have := HJ3.out; have := HK2.out; omega⟩, ⟨by (with_reducible repeat (first | apply Kd.R_alloc | apply Kd.R_drewN | apply Kd.R_drew)); exact HO_6.out⟩, ⟨by (with_reducible repeat (first | refine blk_drewN ?_ _ | refine blk_drew ?_ | refine blk_alloc ?_ _)); exact BK330.out⟩, ⟨by repeat (first | (with_reducible exact HR339.out) | (with_reducible refine Kd.C_alloc ?_ _) | (with_reducible refine Kd.C_drewN ?_ _) | (with_reducible refine Kd.C_drew ?_) | exact HR339.out)⟩, ⟨by repeat (first | (with_reducible first | exact HB.out | apply below_alloc | apply pw_below_drewN | apply below_drew1 | refine below_set ?_ GE330.out) | exact HB.out)⟩⟩
         ·rw [if_neg c24] at H
          exact absurd H (by simp)
        ·rw [if_neg c23] at H
         have c23b0 : decide (x9_2 < (l0.length : Int)) = false := decide_eq_false c23
         clear c23
         by_cases c28 : t343 = 0
         ·rw [if_pos c28] at H
          have c28b0 : (t343 == 0) = true := beq_iff_eq.mpr c28
          have c28b1 : (t343 != 0) = false := bne_eq_false_iff_eq.mpr c28
          clear c28
          obtain rfl := Option.some.inj H
          obtain ⟨Ao29, co29, eo29⟩ := Kd.R_slice HO_6.out
          subst eo29
          go_wp2
          go_ret
          exact ⟨by first | rfl | (simp [errW_none, errW_some] <;> rfl) | (simp [*, errW_none, errW_some] <;> rfl), by repeat (first | (with_reducible first | exact HB.out | apply below_alloc | apply pw_below_drewN | apply below_drew1 | refine below_set ?_ GE330.out) | exact HB.out)⟩
         ·rw [if_neg c28] at H
          have c28b0 : (t343 == 0) = false := beq_eq_false_iff_ne.mpr c28
          have c28b1 : (t343 != 0) = true := bne_iff_ne.mpr c28
          obtain rfl := Option.some.inj H
          go_wp2
          go_ret
          exact ⟨by first | rfl | (simp [errW_none, errW_some] <;> rfl) | (simp [*, errW_none, errW_some] <;> rfl), by repeat (first | (with_reducible first | exact HB.out | apply below_alloc | apply pw_below_drewN | apply below_drew1 | refine below_set ?_ GE330.out) | exact HB.out)⟩
     ·rw [if_neg c15] at H
      exact absurd H (by simp)
    ·rw [if_neg c14] at H
     exact absurd H (by simp)

end Go.Proofs.Ytameoapnhmoleaa.PP
