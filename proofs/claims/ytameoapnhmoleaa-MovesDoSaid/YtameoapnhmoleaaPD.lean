-- Printed by the kit's print.py (turned by patchprint.py, made shorter by squeeze.py, mine). Not trusted: Lean checks it.
import Derived.Test.YtameoapnhmoleaaPA
import Derived.Test.YtameoapnhmoleaaPP3
import Derived.Test.YtameoapnhmoleaaPP4
import Derived.Test.YtameoapnhmoleaaPG
namespace Go.Proofs.Ytameoapnhmoleaa.PP
open Go.RowKit Go.Proofs.YtameoapnhmoleaaW.PrintWords Go.Proofs.YtameoapnhmoleaaW.PrintLast Go.Proofs.YtameoapnhmoleaaW.PrintMore
attribute [local go_sem] max2_int min2_int max_two min_two max_three min_three max_four min_four   -- for this text's walks alone
set_option linter.unusedVariables false
set_option linter.unusedSimpArgs false
attribute [local go_sem high] eqA24
/-! ### quernlaw13_MovesDo: function 4 -/
mutual
def quernlaw13_MovesDo.j0 : Nat → List (S36) → Bool → Bool → Int → Int → Option (Bool)
 | 0, _, _, _, _, _ => none
 | k + 1, x0, x5, x22, x290000, x290001 => if x22 = true then (some x5) else ((quernlaw13_lent.f x0).bind fun t291 => (if 0 ≤ (x0.length : Int) then (if (x0.length : Int) ≤ (t291.length : Int) then ((moves_Order.f k (t291.take ((x0.length : Int) : Int).toNat) x290000 x290001).bind fun bt298 => ((quernlaw13_right.f k x0 x290000 x290001).bind fun t302 => (if t302 = true then (if bt298.2 = 0 then (quernlaw13_MovesDo.j1 k x0 bt298.1 (decide ((bt298.1.length : Int) > (wrap64 (2 * (x0.length : Int))))) x290000 x290001) else (quernlaw13_MovesDo.j1 k x0 bt298.1 true x290000 x290001)) else (if bt298.2 = 0 then (some false) else (some ((bt298.1.length : Int) == 0)))))) else (none)) else (none)))
def quernlaw13_MovesDo.j1 : Nat → List (S36) → List (S36) → Bool → Int → Int → Option (Bool)
 | 0, _, _, _, _, _ => none
 | k + 1, x0, x7, x55, x290000, x290001 => if x55 = true then (some false) else (quernlaw13_MovesDo.l0 k x0 x7 ([] : List (S39)) 0 x290000 x290001)
def quernlaw13_MovesDo.l0 : Nat → List (S36) → List (S36) → List (S39) → Int → Int → Int → Option (Bool)
 | 0, _, _, _, _, _, _ => none
 | k + 1, x0, x7, x9, x10, x290000, x290001 => if x10 < (x7.length : Int) then (if 0 ≤ x10 then (if ((rd_T36 x7 x10).f0.f0) = 1 then ((quernlaw13_held.f k x9 ((rd_T36 x7 x10).f1.f0) ((rd_T36 x7 x10).f1.f1)).bind fun t306 => (if x9.length < 5864062014805 then (quernlaw13_MovesDo.l0 k x0 x7 (x9 ++ [(⟨(⟨(rd_T36 x7 x10).f0.f0, (rd_T36 x7 x10).f0.f1⟩ : S24), t306⟩ : S39)]) (wrap64 (x10 + 1)) x290000 x290001) else (none))) else (if ((rd_T36 x7 x10).f0.f0) = 2 then ((quernlaw13_held.f k x9 ((rd_T36 x7 x10).f1.f0) ((rd_T36 x7 x10).f1.f1)).bind fun t313 => (if x9.length < 5864062014805 then (quernlaw13_MovesDo.l0 k x0 x7 (x9 ++ [(⟨(⟨(rd_T36 x7 x10).f0.f0, (rd_T36 x7 x10).f0.f1⟩ : S24), t313⟩ : S39)]) (wrap64 (x10 + 1)) x290000 x290001) else (none))) else (some false))) else (none)) else (quernlaw13_MovesDo.l1 k x0 x7 x9 0 x290000 x290001)
def quernlaw13_MovesDo.l1 : Nat → List (S36) → List (S36) → List (S39) → Int → Int → Int → Option (Bool)
 | 0, _, _, _, _, _, _ => none
 | k + 1, x0, x7, x9, x11, x290000, x290001 => if x11 < (x0.length : Int) then (if 0 ≤ x11 then ((quernlaw13_held.f k x9 ((rd_T36 x0 x11).f0.f0) ((rd_T36 x0 x11).f0.f1)).bind fun t318 => ((quernlaw13_held.f k ([] : List (S39)) ((rd_T36 x0 x11).f1.f0) ((rd_T36 x0 x11).f1.f1)).bind fun t320 => (if t318 = t320 then (quernlaw13_MovesDo.l1 k x0 x7 x9 (wrap64 (x11 + 1)) x290000 x290001) else (some false)))) else (none)) else (quernlaw13_MovesDo.l2 k x0 x7 0 x290000 x290001)
def quernlaw13_MovesDo.l2 : Nat → List (S36) → List (S36) → Int → Int → Int → Option (Bool)
 | 0, _, _, _, _, _ => none
 | k + 1, x0, x7, x12, x290000, x290001 => if x12 < (x7.length : Int) then (if 0 ≤ x12 then (quernlaw13_MovesDo.l3 k x0 x7 x12 (((rd_T36 x7 x12).f0.f0) == x290000 && (((rd_T36 x7 x12).f0.f1) == x290001)) 0 x290000 x290001) else (none)) else (some true)
def quernlaw13_MovesDo.l3 : Nat → List (S36) → List (S36) → Int → Bool → Int → Int → Int → Option (Bool)
 | 0, _, _, _, _, _, _, _ => none
 | k + 1, x0, x7, x12, x13, x14, x290000, x290001 => if x14 < (x0.length : Int) then (if x13 = true then (quernlaw13_MovesDo.l3 k x0 x7 x12 true (wrap64 (x14 + 1)) x290000 x290001) else (if 0 ≤ x14 then (if 0 ≤ x12 then (if x12 < (x7.length : Int) then (quernlaw13_MovesDo.l3 k x0 x7 x12 (((rd_T36 x0 x14).f0.f0) == ((rd_T36 x7 x12).f0.f0) && (((rd_T36 x0 x14).f0.f1) == ((rd_T36 x7 x12).f0.f1))) (wrap64 (x14 + 1)) x290000 x290001) else (none)) else (none)) else (none))) else (if x13 = true then (quernlaw13_MovesDo.l2 k x0 x7 (wrap64 (x12 + 1)) x290000 x290001) else (some false))
end
def quernlaw13_MovesDo.f (k : Nat) (l0 : List (S36)) (a1_0 : Int) (a1_1 : Int) : Option (Bool) := (quernlaw13_alive.f k).bind fun t290 => (if t290 = true then (quernlaw13_MovesDo.j0 k l0 t290 (decide ((l0.length : Int) > 300)) a1_0 a1_1) else (quernlaw13_MovesDo.j0 k l0 t290 true a1_0 a1_1))
theorem quernlaw13_MovesDo.mono_l : ∀ k, (∀ y0 y1 y2 y3 y4, LeO (quernlaw13_MovesDo.j0 k y0 y1 y2 y3 y4) (quernlaw13_MovesDo.j0 (k + 1) y0 y1 y2 y3 y4)) ∧ (∀ y0 y1 y2 y3 y4, LeO (quernlaw13_MovesDo.j1 k y0 y1 y2 y3 y4) (quernlaw13_MovesDo.j1 (k + 1) y0 y1 y2 y3 y4)) ∧ (∀ y0 y1 y2 y3 y4 y5, LeO (quernlaw13_MovesDo.l0 k y0 y1 y2 y3 y4 y5) (quernlaw13_MovesDo.l0 (k + 1) y0 y1 y2 y3 y4 y5)) ∧ (∀ y0 y1 y2 y3 y4 y5, LeO (quernlaw13_MovesDo.l1 k y0 y1 y2 y3 y4 y5) (quernlaw13_MovesDo.l1 (k + 1) y0 y1 y2 y3 y4 y5)) ∧ (∀ y0 y1 y2 y3 y4, LeO (quernlaw13_MovesDo.l2 k y0 y1 y2 y3 y4) (quernlaw13_MovesDo.l2 (k + 1) y0 y1 y2 y3 y4)) ∧ (∀ y0 y1 y2 y3 y4 y5 y6, LeO (quernlaw13_MovesDo.l3 k y0 y1 y2 y3 y4 y5 y6) (quernlaw13_MovesDo.l3 (k + 1) y0 y1 y2 y3 y4 y5 y6))
 | 0 => ⟨fun _ _ _ _ _ r h => by simp [quernlaw13_MovesDo.j0] at h, fun _ _ _ _ _ r h => by simp [quernlaw13_MovesDo.j1] at h, fun _ _ _ _ _ _ r h => by simp [quernlaw13_MovesDo.l0] at h, fun _ _ _ _ _ _ r h => by simp [quernlaw13_MovesDo.l1] at h, fun _ _ _ _ _ r h => by simp [quernlaw13_MovesDo.l2] at h, fun _ _ _ _ _ _ _ r h => by simp [quernlaw13_MovesDo.l3] at h⟩
 | k + 1 => by
  obtain ⟨ih0, ih1, ih2, ih3, ih4, ih5⟩ := quernlaw13_MovesDo.mono_l k
  refine ⟨?_, ?_, ?_, ?_, ?_, ?_⟩
  ·intro y0 y1 y2 y3 y4
   unfold quernlaw13_MovesDo.j0
   repeat' first
   | (with_reducible exact ih0 _ _ _ _ _)
   | (with_reducible exact ih1 _ _ _ _ _)
   | (with_reducible exact ih2 _ _ _ _ _ _)
   | (with_reducible exact ih3 _ _ _ _ _ _)
   | (with_reducible exact ih4 _ _ _ _ _)
   | (with_reducible exact ih5 _ _ _ _ _ _ _)
   | (with_reducible exact moves_Order.mono _ _ _ _)
   | (with_reducible exact quernlaw13_alive.mono _)
   | (with_reducible exact quernlaw13_held.mono _ _ _ _)
   | (with_reducible exact quernlaw13_right.mono _ _ _ _)
   | (with_reducible exact LeO.refl _)
   | (with_reducible exact LeO.none _)
   | (with_reducible refine LeO.ite ?_ ?_)
   | (with_reducible refine LeO.bind ?_ (fun _ => ?_))
   | exact ih0 _ _ _ _ _
   | exact ih1 _ _ _ _ _
   | exact ih2 _ _ _ _ _ _
   | exact ih3 _ _ _ _ _ _
   | exact ih4 _ _ _ _ _
   | exact ih5 _ _ _ _ _ _ _
   | exact moves_Order.mono _ _ _ _
   | exact quernlaw13_alive.mono _
   | exact quernlaw13_held.mono _ _ _ _
   | exact quernlaw13_right.mono _ _ _ _
   | exact LeO.none _
   | refine LeO.ite ?_ ?_
   | refine LeO.bind ?_ (fun _ => ?_)
  ·intro y0 y1 y2 y3 y4
   unfold quernlaw13_MovesDo.j1
   repeat' first
   | (with_reducible exact ih0 _ _ _ _ _)
   | (with_reducible exact ih1 _ _ _ _ _)
   | (with_reducible exact ih2 _ _ _ _ _ _)
   | (with_reducible exact ih3 _ _ _ _ _ _)
   | (with_reducible exact ih4 _ _ _ _ _)
   | (with_reducible exact ih5 _ _ _ _ _ _ _)
   | (with_reducible exact moves_Order.mono _ _ _ _)
   | (with_reducible exact quernlaw13_alive.mono _)
   | (with_reducible exact quernlaw13_held.mono _ _ _ _)
   | (with_reducible exact quernlaw13_right.mono _ _ _ _)
   | (with_reducible exact LeO.refl _)
   | (with_reducible exact LeO.none _)
   | (with_reducible refine LeO.ite ?_ ?_)
   | (with_reducible refine LeO.bind ?_ (fun _ => ?_))
   | exact ih0 _ _ _ _ _
   | exact ih1 _ _ _ _ _
   | exact ih2 _ _ _ _ _ _
   | exact ih3 _ _ _ _ _ _
   | exact ih4 _ _ _ _ _
   | exact ih5 _ _ _ _ _ _ _
   | exact moves_Order.mono _ _ _ _
   | exact quernlaw13_alive.mono _
   | exact quernlaw13_held.mono _ _ _ _
   | exact quernlaw13_right.mono _ _ _ _
   | exact LeO.none _
   | refine LeO.ite ?_ ?_
   | refine LeO.bind ?_ (fun _ => ?_)
  ·intro y0 y1 y2 y3 y4 y5
   unfold quernlaw13_MovesDo.l0
   repeat' first
   | (with_reducible exact ih0 _ _ _ _ _)
   | (with_reducible exact ih1 _ _ _ _ _)
   | (with_reducible exact ih2 _ _ _ _ _ _)
   | (with_reducible exact ih3 _ _ _ _ _ _)
   | (with_reducible exact ih4 _ _ _ _ _)
   | (with_reducible exact ih5 _ _ _ _ _ _ _)
   | (with_reducible exact moves_Order.mono _ _ _ _)
   | (with_reducible exact quernlaw13_alive.mono _)
   | (with_reducible exact quernlaw13_held.mono _ _ _ _)
   | (with_reducible exact quernlaw13_right.mono _ _ _ _)
   | (with_reducible exact LeO.refl _)
   | (with_reducible exact LeO.none _)
   | (with_reducible refine LeO.ite ?_ ?_)
   | (with_reducible refine LeO.bind ?_ (fun _ => ?_))
   | exact ih0 _ _ _ _ _
   | exact ih1 _ _ _ _ _
   | exact ih2 _ _ _ _ _ _
   | exact ih3 _ _ _ _ _ _
   | exact ih4 _ _ _ _ _
   | exact ih5 _ _ _ _ _ _ _
   | exact moves_Order.mono _ _ _ _
   | exact quernlaw13_alive.mono _
   | exact quernlaw13_held.mono _ _ _ _
   | exact quernlaw13_right.mono _ _ _ _
   | exact LeO.none _
   | refine LeO.ite ?_ ?_
   | refine LeO.bind ?_ (fun _ => ?_)
  ·intro y0 y1 y2 y3 y4 y5
   unfold quernlaw13_MovesDo.l1
   repeat' first
   | (with_reducible exact ih0 _ _ _ _ _)
   | (with_reducible exact ih1 _ _ _ _ _)
   | (with_reducible exact ih2 _ _ _ _ _ _)
   | (with_reducible exact ih3 _ _ _ _ _ _)
   | (with_reducible exact ih4 _ _ _ _ _)
   | (with_reducible exact ih5 _ _ _ _ _ _ _)
   | (with_reducible exact moves_Order.mono _ _ _ _)
   | (with_reducible exact quernlaw13_alive.mono _)
   | (with_reducible exact quernlaw13_held.mono _ _ _ _)
   | (with_reducible exact quernlaw13_right.mono _ _ _ _)
   | (with_reducible exact LeO.refl _)
   | (with_reducible exact LeO.none _)
   | (with_reducible refine LeO.ite ?_ ?_)
   | (with_reducible refine LeO.bind ?_ (fun _ => ?_))
   | exact ih0 _ _ _ _ _
   | exact ih1 _ _ _ _ _
   | exact ih2 _ _ _ _ _ _
   | exact ih3 _ _ _ _ _ _
   | exact ih4 _ _ _ _ _
   | exact ih5 _ _ _ _ _ _ _
   | exact moves_Order.mono _ _ _ _
   | exact quernlaw13_alive.mono _
   | exact quernlaw13_held.mono _ _ _ _
   | exact quernlaw13_right.mono _ _ _ _
   | exact LeO.none _
   | refine LeO.ite ?_ ?_
   | refine LeO.bind ?_ (fun _ => ?_)
  ·intro y0 y1 y2 y3 y4
   unfold quernlaw13_MovesDo.l2
   repeat' first
   | (with_reducible exact ih0 _ _ _ _ _)
   | (with_reducible exact ih1 _ _ _ _ _)
   | (with_reducible exact ih2 _ _ _ _ _ _)
   | (with_reducible exact ih3 _ _ _ _ _ _)
   | (with_reducible exact ih4 _ _ _ _ _)
   | (with_reducible exact ih5 _ _ _ _ _ _ _)
   | (with_reducible exact moves_Order.mono _ _ _ _)
   | (with_reducible exact quernlaw13_alive.mono _)
   | (with_reducible exact quernlaw13_held.mono _ _ _ _)
   | (with_reducible exact quernlaw13_right.mono _ _ _ _)
   | (with_reducible exact LeO.refl _)
   | (with_reducible exact LeO.none _)
   | (with_reducible refine LeO.ite ?_ ?_)
   | (with_reducible refine LeO.bind ?_ (fun _ => ?_))
   | exact ih0 _ _ _ _ _
   | exact ih1 _ _ _ _ _
   | exact ih2 _ _ _ _ _ _
   | exact ih3 _ _ _ _ _ _
   | exact ih4 _ _ _ _ _
   | exact ih5 _ _ _ _ _ _ _
   | exact moves_Order.mono _ _ _ _
   | exact quernlaw13_alive.mono _
   | exact quernlaw13_held.mono _ _ _ _
   | exact quernlaw13_right.mono _ _ _ _
   | exact LeO.none _
   | refine LeO.ite ?_ ?_
   | refine LeO.bind ?_ (fun _ => ?_)
  ·intro y0 y1 y2 y3 y4 y5 y6
   unfold quernlaw13_MovesDo.l3
   repeat' first
   | (with_reducible exact ih0 _ _ _ _ _)
   | (with_reducible exact ih1 _ _ _ _ _)
   | (with_reducible exact ih2 _ _ _ _ _ _)
   | (with_reducible exact ih3 _ _ _ _ _ _)
   | (with_reducible exact ih4 _ _ _ _ _)
   | (with_reducible exact ih5 _ _ _ _ _ _ _)
   | (with_reducible exact moves_Order.mono _ _ _ _)
   | (with_reducible exact quernlaw13_alive.mono _)
   | (with_reducible exact quernlaw13_held.mono _ _ _ _)
   | (with_reducible exact quernlaw13_right.mono _ _ _ _)
   | (with_reducible exact LeO.refl _)
   | (with_reducible exact LeO.none _)
   | (with_reducible refine LeO.ite ?_ ?_)
   | (with_reducible refine LeO.bind ?_ (fun _ => ?_))
   | exact ih0 _ _ _ _ _
   | exact ih1 _ _ _ _ _
   | exact ih2 _ _ _ _ _ _
   | exact ih3 _ _ _ _ _ _
   | exact ih4 _ _ _ _ _
   | exact ih5 _ _ _ _ _ _ _
   | exact moves_Order.mono _ _ _ _
   | exact quernlaw13_alive.mono _
   | exact quernlaw13_held.mono _ _ _ _
   | exact quernlaw13_right.mono _ _ _ _
   | exact LeO.none _
   | refine LeO.ite ?_ ?_
   | refine LeO.bind ?_ (fun _ => ?_)
theorem quernlaw13_MovesDo.mono : ∀ a0 a1 a2 k, LeO (quernlaw13_MovesDo.f k a0 a1 a2) (quernlaw13_MovesDo.f (k + 1) a0 a1 a2) := by
 intro a0 a1 a2 k
 obtain ⟨ih0, ih1, ih2, ih3, ih4, ih5⟩ := quernlaw13_MovesDo.mono_l k
 unfold quernlaw13_MovesDo.f
 repeat' first
   | (with_reducible exact ih0 _ _ _ _ _)
   | (with_reducible exact ih1 _ _ _ _ _)
   | (with_reducible exact ih2 _ _ _ _ _ _)
   | (with_reducible exact ih3 _ _ _ _ _ _)
   | (with_reducible exact ih4 _ _ _ _ _)
   | (with_reducible exact ih5 _ _ _ _ _ _ _)
   | (with_reducible exact moves_Order.mono _ _ _ _)
   | (with_reducible exact quernlaw13_alive.mono _)
   | (with_reducible exact quernlaw13_held.mono _ _ _ _)
   | (with_reducible exact quernlaw13_right.mono _ _ _ _)
   | (with_reducible exact LeO.refl _)
   | (with_reducible exact LeO.none _)
   | (with_reducible refine LeO.ite ?_ ?_)
   | (with_reducible refine LeO.bind ?_ (fun _ => ?_))
   | exact ih0 _ _ _ _ _
   | exact ih1 _ _ _ _ _
   | exact ih2 _ _ _ _ _ _
   | exact ih3 _ _ _ _ _ _
   | exact ih4 _ _ _ _ _
   | exact ih5 _ _ _ _ _ _ _
   | exact moves_Order.mono _ _ _ _
   | exact quernlaw13_alive.mono _
   | exact quernlaw13_held.mono _ _ _ _
   | exact quernlaw13_right.mono _ _ _ _
   | exact LeO.none _
   | refine LeO.ite ?_ ?_
   | refine LeO.bind ?_ (fun _ => ?_)
def quernlaw13_MovesDo.T5 : Bool × List (List Nat × List Nat) := (true, [([], []), ([], []), ([1], [1]), ([0, 2], [0, 2]), ([], []), ([3, 4], [3, 4]), ([5], [5]), ([6], [6]), ([6], [6]), ([7, 5, 0, 1, 2, 3, 4, 5, 6, 7], [7]), ([8, 9, 0, 1, 2, 3, 4, 5, 6, 7, 8, 9], [8])])
def quernlaw13_MovesDo.B5 : List Nat := [0, 0, 2, 7, 0, 31, 63, 127, 127, 255, 1023]
theorem quernlaw13_MovesDo.tab5 : rtab .any (opsOf Try.f4 5) = quernlaw13_MovesDo.T5 := by kernel_rfl
theorem quernlaw13_MovesDo.bits5 : waitsOk quernlaw13_MovesDo.T5.2 quernlaw13_MovesDo.B5 = true := by kernel_rfl
def quernlaw13_MovesDo.T16 : Bool × List (List Nat × List Nat) := (true, [([], []), ([], []), ([], []), ([1, 2], [1, 2]), ([3], [3]), ([4], [4]), ([], []), ([], []), ([], []), ([7, 8], [7, 8]), ([9], [9]), ([10], [10]), ([6, 11], [6, 11]), ([5, 12], [5, 12]), ([13], [13]), ([0, 14, 12], [0, 14]), ([15, 15, 0, 1, 2, 3, 4, 5, 6, 7, 8, 9, 10, 11, 12, 13, 14, 15], [0, 6, 15])])
def quernlaw13_MovesDo.B16 : List Nat := [0, 0, 0, 6, 14, 30, 0, 0, 0, 384, 896, 1920, 4032, 8190, 16382, 32767, 65535]
theorem quernlaw13_MovesDo.tab16 : rtab .any (opsOf Try.f4 16) = quernlaw13_MovesDo.T16 := by kernel_rfl
theorem quernlaw13_MovesDo.bits16 : waitsOk quernlaw13_MovesDo.T16.2 quernlaw13_MovesDo.B16 = true := by kernel_rfl
def quernlaw13_MovesDo.T20 : Bool × List (List Nat × List Nat) := (true, [([], []), ([], []), ([], []), ([1, 2], [1, 2]), ([3], [3]), ([4], [4]), ([0, 5], [0, 5]), ([], []), ([], []), ([7, 8], [7, 8]), ([9], [9]), ([10], [10]), ([11, 6], [11]), ([6, 12], [6, 12])])
def quernlaw13_MovesDo.B20 : List Nat := [0, 0, 0, 6, 14, 30, 63, 0, 0, 384, 896, 1920, 4095, 8191]
theorem quernlaw13_MovesDo.tab20 : rtab .any (opsOf Try.f4 20) = quernlaw13_MovesDo.T20 := by kernel_rfl
theorem quernlaw13_MovesDo.bits20 : waitsOk quernlaw13_MovesDo.T20.2 quernlaw13_MovesDo.B20 = true := by kernel_rfl
def quernlaw13_MovesDo.T25 : Bool × List (List Nat × List Nat) := (true, [([], []), ([], []), ([0, 1], [0, 1]), ([2], [2]), ([3], [3]), ([], []), ([4, 5], [4, 5]), ([6, 0, 1, 2, 3, 4, 5, 6], [6])])
def quernlaw13_MovesDo.B25 : List Nat := [0, 0, 3, 7, 15, 0, 63, 127]
theorem quernlaw13_MovesDo.tab25 : rtab .any (opsOf Try.f4 25) = quernlaw13_MovesDo.T25 := by kernel_rfl
theorem quernlaw13_MovesDo.bits25 : waitsOk quernlaw13_MovesDo.T25.2 quernlaw13_MovesDo.B25 = true := by kernel_rfl
def quernlaw13_MovesDo.T29 : Bool × List (List Nat × List Nat) := (true, [([], []), ([0], [0]), ([1], [1]), ([1], [1]), ([2, 3, 1], [1, 2, 3]), ([4, 1], [1, 4]), ([5, 1], [1, 5]), ([1], [1]), ([1], [1]), ([7, 8, 1], [1, 7, 8]), ([9, 1], [1, 9]), ([10, 1], [1, 10]), ([6, 11, 1], [1, 6, 11]), ([1, 12], [1, 12]), ([13, 1, 0, 1, 2, 3, 4, 5, 6, 7, 8, 9, 10, 11, 12, 13], [0, 13])])
def quernlaw13_MovesDo.B29 : List Nat := [0, 1, 3, 3, 15, 31, 63, 3, 3, 387, 899, 1923, 4095, 8191, 16383]
theorem quernlaw13_MovesDo.tab29 : rtab .any (opsOf Try.f4 29) = quernlaw13_MovesDo.T29 := by kernel_rfl
theorem quernlaw13_MovesDo.bits29 : waitsOk quernlaw13_MovesDo.T29.2 quernlaw13_MovesDo.B29 = true := by kernel_rfl
set_option maxHeartbeats 8000000 in
set_option maxRecDepth 100000 in
theorem quernlaw13_MovesDo.calls (k : Nat) (A0 : Option Addr) (c0 : Nat) (l0 : List (S36)) (a1_0 : Int) (a1_1 : Int) (r : Bool) (w : World) (hr0 : Kd.C k36 w A0 l0.length l0) (hc0 : l0.length ≤ c0) (h : quernlaw13_MovesDo.f k l0 a1_0 a1_1 = some r) :
  Calls Try.prog 4 #[.slice A0 l0.length c0, .agg #[.int .i64 a1_0, .int .i64 a1_1]] w fun e w' => e = .returned (.bool r) ∧ Below w.heap.size w w' := by
 have hu24 := Try.underlying24
 have hu39 := Try.underlying39
 have HR0 := Aside0.mk hr0
 have HC0 := Aside0.mk hc0
 clear hr0 hc0
 have HB := Aside0.mk (Below.refl w.heap.size w)
 have H : ((quernlaw13_alive.f k).bind fun t290 => (if t290 = true then (quernlaw13_MovesDo.j0 k l0 t290 (decide ((l0.length : Int) > 300)) a1_0 a1_1) else (quernlaw13_MovesDo.j0 k l0 t290 true a1_0 a1_1))) = some r := h
 clear h
 replace H := Option.bind_eq_some_iff.mp H
 obtain ⟨t290, A30, H⟩ := H
 replace H : (if t290 = true then (quernlaw13_MovesDo.j0 k l0 t290 (decide ((l0.length : Int) > 300)) a1_0 a1_1) else (quernlaw13_MovesDo.j0 k l0 t290 true a1_0 a1_1)) = some r := H
 have A3 := Aside0.mk A30
 clear A30
 have HC4 := Aside0.mk H
 clear H
 go_enter Try.func4, Try.ntmps4
 go_upto_region 2 with (first | ((with_reducible refine gate_dst (N := 3) rfl ?_); (try (refine gate_guard (by rfl) ?_; dsimp only)); refine box_event ?hg (N := 3) ?hd (cs := #[.int .i64 a1_0, .int .i64 a1_1]) (t := 24) ?hr ?_; (case hd => rfl); (case hg => rfl); (case hr => first | (go_simp; done) | (go_simp; rfl)); intro gb289 hg w5 hbox hb; have n0_ := Aside0.mk (below_step (by repeat (first | (with_reducible first | exact HB.out | apply below_alloc | apply pw_below_drewN | apply below_drew1) | exact HB.out)) hb); have n1_ := Aside0.mk (hbox); have n2_ := Aside0.mk ((by rw [hg]; exact (below_size (by repeat (first | (with_reducible first | exact HB.out | apply below_alloc | apply pw_below_drewN | apply below_drew1) | exact HB.out))) : w.heap.size ≤ gb289)); have n3_ := Aside0.mk ((by rw [hg]; exact (below_size (by repeat (first | (with_reducible first | exact HB.out | apply below_alloc | apply pw_below_drewN | apply below_drew1) | exact HB.out))) : w.heap.size ≤ gb289)); clear HB; have HB := n0_; have BK289 := n1_; have GW289 := n2_; have GE289 := n3_; clear n0_ n1_ n2_ n3_; clear hb hbox hg) | ((with_reducible refine gate_callee (f := 8) rfl ?_); refine goesL_ (some 15) rfl rfl Try.func8 (by kernel_rfl) rfl #[] rfl (by (try simp only [List.map_toArray, List.map_cons, List.map_nil]); first | done | rfl | (simp only [List.length_drop, List.length_take]; rfl)) ?_; (with_reducible refine (quernlaw13_alive.calls k  t290 _ A3.out).mono ?_); rintro e w6 ⟨rfl, hb⟩; refine ⟨_, rfl, ?_⟩; have n0_ := Aside0.mk (blk_below (g := gb289) (o := .cells #[.int .i64 a1_0, .int .i64 a1_1] 24 (0, 0)) (by (with_reducible repeat (first | refine blk_drewN ?_ _ | refine blk_drew ?_ | refine blk_alloc ?_ _)); exact BK289.out) hb); have n1_ := Aside0.mk (below_step (by repeat (first | (with_reducible first | exact HB.out | apply below_alloc | apply pw_below_drewN | apply below_drew1 | refine below_set ?_ GE289.out) | exact HB.out)) hb); clear BK289; clear HB; have BK289 := n0_; have HB := n1_; clear n0_ n1_; (try clear hb); (try clear hb2); (try clear hk); (try clear hi)))
 (try simp only [Act.put, List.setIfInBounds_toArray, List.set_cons_zero, List.set_cons_succ])
 go_cut [22] (fun v22 wc => ∃ (kq : Nat) (x22_3 : Bool), v22 = .bool x22_3 ∧ Aside0 (quernlaw13_MovesDo.j0 kq l0 t290 x22_3 a1_0 a1_1 = some r) ∧ Aside0 (kq ≤ k) ∧ Aside0 (wc.heap[gb289]? = some (.cells #[.int .i64 a1_0, .int .i64 a1_1] 24 (0, 0))) ∧ Aside0 (Below w.heap.size w wc))
 case first =>
  have H := HC4.out
  clear HC4
  by_cases c7 : t290 = true
  ·subst c7
   have H1 : (quernlaw13_MovesDo.j0 k l0 true (decide ((l0.length : Int) > 300)) a1_0 a1_1) = some r := by rw [if_pos rfl] at H; exact H
   clear H
   have H := H1
   clear H1
   have H' := Aside0.mk H
   clear H
   go_wp2
   go_meet
   case rel => exact ⟨_, (decide ((l0.length : Int) > 300)), (by first | rfl | (simp; done) | (simp [*]; done)), H', ⟨by first | omega | exact Nat.le_refl _⟩, ⟨by (with_reducible repeat (first | refine blk_drewN ?_ _ | refine blk_drew ?_ | refine blk_alloc ?_ _)); exact BK289.out⟩, ⟨by repeat (first | (with_reducible first | exact HB.out | apply below_alloc | apply pw_below_drewN | apply below_drew1 | refine below_set ?_ GE289.out) | exact HB.out)⟩⟩
  ·replace c7 := Bool.eq_false_iff.mpr c7
   subst c7
   have H1 : (quernlaw13_MovesDo.j0 k l0 false true a1_0 a1_1) = some r := by rw [if_neg (show ¬ (false = true) by decide)] at H; exact H
   clear H
   have H := H1
   clear H1
   have H' := Aside0.mk H
   clear H
   go_wp2
   go_meet
   case rel => exact ⟨_, (true), (by first | rfl | (simp; done) | (simp [*]; done)), H', ⟨by first | omega | exact Nat.le_refl _⟩, ⟨by (with_reducible repeat (first | refine blk_drewN ?_ _ | refine blk_drew ?_ | refine blk_alloc ?_ _)); exact BK289.out⟩, ⟨by repeat (first | (with_reducible first | exact HB.out | apply below_alloc | apply pw_below_drewN | apply below_drew1 | refine below_set ?_ GE289.out) | exact HB.out)⟩⟩
 case rest =>
  clear HC4
  try clear p2
  try clear c4
  try clear c7
  obtain ⟨kq, x22_3, rfl, HA, HJ3, BK289, HB⟩ := hcut
  cases kq with
  | zero => exact absurd HA.out (by simp [quernlaw13_MovesDo.j0])
  | succ kj3 =>
   have H := HA.out
   clear HA
   simp only [quernlaw13_MovesDo.j0] at H
   by_cases c8 : x22_3 = true
   ·subst c8
    have H1 : (some t290) = some r := by rw [if_pos rfl] at H; exact H
    clear H
    have H := H1
    clear H1
    obtain rfl := Option.some.inj H
    go_wp2
    go_ret
    exact ⟨by first | rfl | (simp [errW_none, errW_some] <;> rfl) | (simp [*, errW_none, errW_some] <;> rfl), by repeat (first | (with_reducible first | exact HB.out | apply below_alloc | apply pw_below_drewN | apply below_drew1 | refine below_set ?_ GE289.out) | exact HB.out)⟩
   ·replace c8 := Bool.eq_false_iff.mpr c8
    subst c8
    have H1 : ((quernlaw13_lent.f l0).bind fun t291 => (if 0 ≤ (l0.length : Int) then (if (l0.length : Int) ≤ (t291.length : Int) then ((moves_Order.f kj3 (t291.take ((l0.length : Int) : Int).toNat) a1_0 a1_1).bind fun bt298 => ((quernlaw13_right.f kj3 l0 a1_0 a1_1).bind fun t302 => (if t302 = true then (if bt298.2 = 0 then (quernlaw13_MovesDo.j1 kj3 l0 bt298.1 (decide ((bt298.1.length : Int) > (wrap64 (2 * (l0.length : Int))))) a1_0 a1_1) else (quernlaw13_MovesDo.j1 kj3 l0 bt298.1 true a1_0 a1_1)) else (if bt298.2 = 0 then (some false) else (some ((bt298.1.length : Int) == 0)))))) else (none)) else (none))) = some r := by rw [if_neg (show ¬ (false = true) by decide)] at H; exact H
    clear H
    have H := H1
    clear H1
    replace H := Option.bind_eq_some_iff.mp H
    obtain ⟨t291, A90, H⟩ := H
    replace H : (if 0 ≤ (l0.length : Int) then (if (l0.length : Int) ≤ (t291.length : Int) then ((moves_Order.f kj3 (t291.take ((l0.length : Int) : Int).toNat) a1_0 a1_1).bind fun bt298 => ((quernlaw13_right.f kj3 l0 a1_0 a1_1).bind fun t302 => (if t302 = true then (if bt298.2 = 0 then (quernlaw13_MovesDo.j1 kj3 l0 bt298.1 (decide ((bt298.1.length : Int) > (wrap64 (2 * (l0.length : Int))))) a1_0 a1_1) else (quernlaw13_MovesDo.j1 kj3 l0 bt298.1 true a1_0 a1_1)) else (if bt298.2 = 0 then (some false) else (some ((bt298.1.length : Int) == 0)))))) else (none)) else (none)) = some r := H
    have A9 := Aside0.mk A90
    clear A90
    by_cases c10 : 0 ≤ (l0.length : Int)
    ·rw [if_pos c10] at H
     have c10b0 := eq_true c10
     have c10b1 : decide (0 ≤ (l0.length : Int)) = true := decide_eq_true c10
     clear c10
     by_cases c11 : (l0.length : Int) ≤ (t291.length : Int)
     ·rw [if_pos c11] at H
      have c11b0 := eq_true c11
      have c11b1 : decide ((l0.length : Int) ≤ (t291.length : Int)) = true := decide_eq_true c11
      clear c11
      obtain ⟨y294, hy294⟩ : ∃ y_ : List (S36), y_ = (t291.take ((l0.length : Int) : Int).toNat) := ⟨_, rfl⟩
      replace H : ((moves_Order.f kj3 y294 a1_0 a1_1).bind fun bt298 => ((quernlaw13_right.f kj3 l0 a1_0 a1_1).bind fun t302 => (if t302 = true then (if bt298.2 = 0 then (quernlaw13_MovesDo.j1 kj3 l0 bt298.1 (decide ((bt298.1.length : Int) > (wrap64 (2 * (l0.length : Int))))) a1_0 a1_1) else (quernlaw13_MovesDo.j1 kj3 l0 bt298.1 true a1_0 a1_1)) else (if bt298.2 = 0 then (some false) else (some ((bt298.1.length : Int) == 0)))))) = some r := by first | (rw [hy294]; with_reducible exact H) | (have H2_ := (Option.bind_some _ _).symm.trans H; rw [hy294]; with_reducible exact H2_) | (have H2_ := (Option.bind_some _ _).symm.trans H; with_reducible exact H2_) | with_reducible exact H | (rw [hy294]; exact H) | exact H
      have Ny294 := Aside0.mk hy294
      clear hy294
      replace H := Option.bind_eq_some_iff.mp H
      obtain ⟨⟨t298, t301⟩, A120, H⟩ := H
      replace H : ((quernlaw13_right.f kj3 l0 a1_0 a1_1).bind fun t302 => (if t302 = true then (if t301 = 0 then (quernlaw13_MovesDo.j1 kj3 l0 t298 (decide ((t298.length : Int) > (wrap64 (2 * (l0.length : Int))))) a1_0 a1_1) else (quernlaw13_MovesDo.j1 kj3 l0 t298 true a1_0 a1_1)) else (if t301 = 0 then (some false) else (some ((t298.length : Int) == 0))))) = some r := H
      have A12 := Aside0.mk A120
      clear A120
      replace H := Option.bind_eq_some_iff.mp H
      obtain ⟨t302, A130, H⟩ := H
      replace H : (if t302 = true then (if t301 = 0 then (quernlaw13_MovesDo.j1 kj3 l0 t298 (decide ((t298.length : Int) > (wrap64 (2 * (l0.length : Int))))) a1_0 a1_1) else (quernlaw13_MovesDo.j1 kj3 l0 t298 true a1_0 a1_1)) else (if t301 = 0 then (some false) else (some ((t298.length : Int) == 0)))) = some r := H
      have A13 := Aside0.mk A130
      clear A130
      by_cases c14 : t302 = true
      ·subst c14
       have H1 : (if t301 = 0 then (quernlaw13_MovesDo.j1 kj3 l0 t298 (decide ((t298.length : Int) > (wrap64 (2 * (l0.length : Int))))) a1_0 a1_1) else (quernlaw13_MovesDo.j1 kj3 l0 t298 true a1_0 a1_1)) = some r := by rw [if_pos rfl] at H; exact H
       clear H
       have H := H1
       clear H1
       have HC15 := Aside0.mk H
       clear H
       try go_wp2_with (first | ((with_reducible refine gate_callee (f := 9) rfl ?_); refine goesL_ (some 25) rfl rfl Try.func9 (by kernel_rfl) rfl #[.slice A0 l0.length c0] rfl (by (try simp only [List.map_toArray, List.map_cons, List.map_nil]); first | done | rfl | (simp only [List.length_drop, List.length_take]; rfl)) ?_; (with_reducible refine (quernlaw13_lent.calls _ _ l0 t291 _ ?side1 ?side2 A9.out).mono ?_); (case side1 => repeat (first | exact (Kd.C_below HR0.out HB.out) | (with_reducible refine Kd.C_alloc ?_ _) | (with_reducible refine Kd.C_drewN ?_ _) | (with_reducible refine Kd.C_drew ?_))); (case side2 => exact HC0.out); rintro e w16 ⟨v292, rfl, ho0, hb⟩; refine ⟨_, rfl, ?_⟩; have n0_ := Aside0.mk (Kd.R_lower ho0 (below_size (by repeat (first | (with_reducible first | exact HB.out | apply below_alloc | apply pw_below_drewN | apply below_drew1 | refine below_set ?_ GE289.out) | exact HB.out)))); have n1_ := Aside0.mk (blk_below (g := gb289) (o := .cells #[.int .i64 a1_0, .int .i64 a1_1] 24 (0, 0)) (by (with_reducible repeat (first | refine blk_drewN ?_ _ | refine blk_drew ?_ | refine blk_alloc ?_ _)); exact BK289.out) hb); have n2_ := Aside0.mk (below_step (by repeat (first | (with_reducible first | exact HB.out | apply below_alloc | apply pw_below_drewN | apply below_drew1 | refine below_set ?_ GE289.out) | exact HB.out)) hb); clear BK289; clear HB; have HO293 := n0_; have BK289 := n1_; have HB := n2_; clear n0_ n1_ n2_; (try clear hb); (try clear hb2); (try clear hk); (try clear hi); (try clear ho0)))
       have n0_ := Aside0.mk (Kd.R_drew HO293.out)
       have n1_ := Aside0.mk (blk_drew BK289.out)
       have n2_ := Aside0.mk (below_drew1 HB.out)
       clear HO293
       clear BK289
       clear HB
       have HO293 := n0_
       have BK289 := n1_
       have HB := n2_
       clear n0_ n1_ n2_
       obtain ⟨Ao19, co19, eo19⟩ := Kd.R_slice HO293.out
       (first | subst eo19 | (injection eo19 with f1_ f2_ f3_; have f4_ := f1_.symm; have f5_ := f3_.symm; clear f1_ f2_ f3_; subst f4_; subst f5_))
       have q18 : ((l0.length : Int) : Int) ≤ ((t291.length : Int) : Int) := of_decide_eq_true (by first | (with_reducible assumption) | assumption)
       obtain ⟨i018, hi018, _, hsz18, _⟩ := info_parts info36
       have hroom18 : t291.length ≤ co19 := (Kd.R_reads' HO293.out).2.1
       have hC18 : Kd.C k36 _ Ao19 t291.length t291 := (Kd.R_reads' HO293.out).2.2
       have hcut18 := cut_to (P := Try.prog) 22 36 .i64 Try.underlying22 hi018 Ao19 t291.length co19 (l0.length : Int) (of_decide_eq_true (by first | (with_reducible assumption) | assumption)) q18 hroom18
       have hr18 := Kd.C_take (m := ((l0.length : Int) : Int).toNat) hC18 (by omega)
       have hy18 : y294.length = ((l0.length : Int) : Int).toNat := (by rw [Ny294.out, List.length_take]; omega)
       rw [← Ny294.out] at hr18
       rw [← hy18] at hcut18
       have HR297 := Aside0.mk hr18
       have HC297 := Aside0.mk (show y294.length ≤ co19 from by omega)
       clear hr18 hC18 hroom18 hi018 hsz18
       have KY18 := Aside0.mk hy18
       clear hy18
       have KL18 := Aside0.mk (show ((l0.length : Int) : Int).toNat ≤ t291.length from by omega)
       replace q18 := eq_true q18
       refine start_ (n := 11) (S := fun w' => w'.cell? ⟨gb289, 0, none⟩ = some (.int .i64 a1_0) ∧ w'.cell? ⟨gb289, 1, none⟩ = some (.int .i64 a1_1)) (ds := []) (bl 0 11) (by kernel_rfl) rfl rfl ⟨(blk_cell BK289.out 0).trans rfl, (blk_cell BK289.out 1).trans rfl⟩ (fun hHeld => ?_); refine with_tabW quernlaw13_MovesDo.tab5 quernlaw13_MovesDo.bits5 (fun HT_ HW_ => ?_)
       generalize w16.drew = w17 at HO293 BK289 HB HR297 hHeld ⊢
       refine pure_ (i := 0) (N := some 27) (v := ?_) (a' := ?_) (bl 1 11) rfl rfl (any_of HT_.out (by kernel_rfl)) (fun _ _ _ h => h) (Or.inl ⟨by rfl, ?_⟩) ?_ ?_
       rotate_left
       ·intro w'
        go_simp
        with_reducible rfl
       rotate_left
       ·simp only [Act.put, List.setIfInBounds_toArray, List.set_cons_zero, List.set_cons_succ, i64_w, i32_w]
        rfl
       refine pure_ (i := 1) (N := some 28) (v := ?_) (a' := ?_) (bl 2 11) rfl rfl (any_of HT_.out (by kernel_rfl)) (fun _ _ _ h => h) (Or.inl ⟨by rfl, ?_⟩) ?_ ?_
       rotate_left
       ·intro w'
        go_simp
        with_reducible rfl
       rotate_left
       ·simp only [Act.put, List.setIfInBounds_toArray, List.set_cons_zero, List.set_cons_succ, i64_w, i32_w]
        rfl
       refine pure_ (i := 2) (N := some 29) (v := ?_) (a' := ?_) (bl 3 11) rfl rfl (any_of HT_.out (by kernel_rfl)) (fun _ _ _ h => h) (Or.inl ⟨by rfl, ?_⟩) ?_ ?_
       rotate_left
       ·intro w'
        go_simp
        with_reducible rfl
       rotate_left
       ·simp only [Act.put, List.setIfInBounds_toArray, List.set_cons_zero, List.set_cons_succ, i64_w, i32_w]
        rfl
       refine pure_ (i := 3) (N := some 30) (v := ?_) (a' := ?_) (bl 4 11) rfl rfl (any_of HT_.out (by kernel_rfl)) (fun _ _ _ h => h) (Or.inl ⟨by rfl, ?_⟩) ?_ ?_
       rotate_left
       ·intro w'
        go_simp
        with_reducible rfl
       rotate_left
       ·simp only [Act.put, List.setIfInBounds_toArray, List.set_cons_zero, List.set_cons_succ, i64_w, i32_w]
        rfl
       refine take_ (i := 4) (N := some 31) (v := ?_) (a' := ?_) (bl 5 11) rfl rfl (take_ofW HT_.out HW_.out (by kernel_rfl)) (fun _ _ _ h => h) (Or.inl ⟨by rfl, ?_⟩) hHeld ?_ ?_
       rotate_left
       ·rintro w' ⟨s0, s1⟩
        go_simp
        with_reducible rfl
       rotate_left
       ·simp only [Act.put, List.setIfInBounds_toArray, List.set_cons_zero, List.set_cons_succ, i64_w, i32_w]
        rfl
       refine one_ (i := 5) (N := some 32) (bl 6 11) rfl rfl (one_of HT_.out (by kernel_rfl)) (by decide) (fun K hK => ?_)
       refine goes_ Try.func10 (by kernel_rfl) rfl #[.slice Ao19 y294.length co19, .agg #[.int .i64 a1_0, .int .i64 a1_1]] (by rfl) rfl rfl (by (try simp only [List.map_toArray, List.map_cons, List.map_nil]); first | done | rfl | (simp only [List.length_drop, List.length_take]; rfl)) ?_
       with_reducible refine (moves_Order.calls kj3 _ _ y294 a1_0 a1_1 t298 t301 _ ?side1 ?side2 A12.out).mono ?_
       (case side1 => repeat (first | exact (by repeat (first | (with_reducible exact HR297.out) | (with_reducible refine Kd.C_alloc ?_ _) | (with_reducible refine Kd.C_drewN ?_ _) | (with_reducible refine Kd.C_drew ?_) | exact HR297.out)) | (with_reducible refine Kd.C_alloc ?_ _) | (with_reducible refine Kd.C_drewN ?_ _) | (with_reducible refine Kd.C_drew ?_)))
       (case side2 => exact HC297.out)
       rintro e w20 ⟨v299, rfl, ho0, hb⟩
       refine ⟨_, rfl, ?_⟩
       have n0_ := Aside0.mk (Kd.R_elder' (by (with_reducible repeat (first | apply Kd.R_alloc | apply Kd.R_drewN | apply Kd.R_drew)); exact HO293.out) (Kd.R_base ho0) hb)
       have n1_ := Aside0.mk (Kd.R_lower (Kd.R_new' ho0 (Kd.R_lt (by (with_reducible repeat (first | apply Kd.R_alloc | apply Kd.R_drewN | apply Kd.R_drew)); exact HO293.out))) (below_size (by repeat (first | (with_reducible first | exact HB.out | apply below_alloc | apply pw_below_drewN | apply below_drew1 | refine below_set ?_ GE289.out) | exact HB.out))))
       have n2_ := Aside0.mk (blk_below (g := gb289) (o := .cells #[.int .i64 a1_0, .int .i64 a1_1] 24 (0, 0)) (by (with_reducible repeat (first | refine blk_drewN ?_ _ | refine blk_drew ?_ | refine blk_alloc ?_ _)); exact BK289.out) hb)
       have n3_ := Aside0.mk (Kd.C_below (by repeat (first | (with_reducible exact HR297.out) | (with_reducible refine Kd.C_alloc ?_ _) | (with_reducible refine Kd.C_drewN ?_ _) | (with_reducible refine Kd.C_drew ?_) | exact HR297.out)) hb)
       have n4_ := Aside0.mk (below_step (by repeat (first | (with_reducible first | exact HB.out | apply below_alloc | apply pw_below_drewN | apply below_drew1 | refine below_set ?_ GE289.out) | exact HB.out)) hb)
       clear HO293
       clear BK289
       clear HR297
       clear HB
       have HO293 := n0_
       have HO300 := n1_
       have BK289 := n2_
       have HR297 := n3_
       have HB := n4_
       clear n0_ n1_ n2_ n3_ n4_
       (try clear hb)
       (try clear hb2)
       (try clear hk)
       (try clear hi)
       (try clear ho0)
       refine hK.out _ _ ⟨(blk_cell BK289.out 0).trans rfl, (blk_cell BK289.out 1).trans rfl⟩ (fun hHeld => ?_)
       clear hK K
       refine norm_ (a' := ?_) ?_ ?_
       rotate_left
       ·show Act.put _ (some 32) _ = _
        simp only [Act.put, List.setIfInBounds_toArray, List.set_cons_zero, List.set_cons_succ, i64_w, i32_w]
        rfl
       refine pure_ (i := 6) (N := some 26) (v := ?_) (a' := ?_) (bl 7 11) rfl rfl (any_of HT_.out (by kernel_rfl)) (fun _ _ _ h => h) (Or.inl ⟨by rfl, ?_⟩) ?_ ?_
       rotate_left
       ·intro w'
        go_simp
        with_reducible rfl
       rotate_left
       ·simp only [Act.put, List.setIfInBounds_toArray, List.set_cons_zero, List.set_cons_succ, i64_w, i32_w]
        rfl
       refine pure_ (i := 7) (N := some 33) (v := ?_) (a' := ?_) (bl 8 11) rfl rfl (any_of HT_.out (by kernel_rfl)) (fun _ _ _ h => h) (Or.inl ⟨by rfl, ?_⟩) ?_ ?_
       rotate_left
       ·intro w'
        go_simp
        with_reducible rfl
       rotate_left
       ·simp only [Act.put, List.setIfInBounds_toArray, List.set_cons_zero, List.set_cons_succ, i64_w, i32_w]
        rfl
       refine pure_ (i := 8) (N := some 34) (v := ?_) (a' := ?_) (bl 9 11) rfl rfl (any_of HT_.out (by kernel_rfl)) (fun _ _ _ h => h) (Or.inl ⟨by rfl, ?_⟩) ?_ ?_
       rotate_left
       ·intro w'
        go_simp
        with_reducible rfl
       rotate_left
       ·simp only [Act.put, List.setIfInBounds_toArray, List.set_cons_zero, List.set_cons_succ, i64_w, i32_w]
        rfl
       refine pure_ (i := 9) (N := some 7) (v := ?_) (a' := ?_) (bl 10 11) rfl rfl (any_of HT_.out (by kernel_rfl)) (fun _ _ _ h => h) (Or.inl ⟨by rfl, ?_⟩) ?_ ?_
       rotate_left
       ·intro w'
        go_simp
        with_reducible rfl
       rotate_left
       ·simp only [Act.put, List.setIfInBounds_toArray, List.set_cons_zero, List.set_cons_succ, i64_w, i32_w]
        rfl
       refine pure_ (i := 10) (N := some 8) (v := ?_) (a' := ?_) (bl 11 11) rfl rfl (any_of HT_.out (by kernel_rfl)) (fun _ _ _ h => h) (Or.inl ⟨by rfl, ?_⟩) ?_ ?_
       rotate_left
       ·intro w'
        go_simp
        with_reducible rfl
       rotate_left
       ·simp only [Act.put, List.setIfInBounds_toArray, List.set_cons_zero, List.set_cons_succ, i64_w, i32_w]
        rfl
       refine done_ (done_of HT_.out (by kernel_rfl)) ?_
       have hcz21_0 : w20.cell? ⟨gb289, 0, none⟩ = some (.int .i64 a1_0) := (blk_cell BK289.out 0).trans rfl
       have hcz21_1 : w20.cell? ⟨gb289, 1, none⟩ = some (.int .i64 a1_1) := (blk_cell BK289.out 1).trans rfl
       have hfz21_0 := blk_frozen BK289.out 0
       have hfz21_1 := blk_frozen BK289.out 1
       go_upto_region 8 with (first | ((with_reducible refine gate_callee (f := 14) rfl ?_); refine goesL_ (some 37) rfl rfl Try.func14 (by kernel_rfl) rfl #[.slice A0 l0.length c0, .agg #[.int .i64 a1_0, .int .i64 a1_1]] rfl (by (try simp only [List.map_toArray, List.map_cons, List.map_nil]); first | done | rfl | (simp only [List.length_drop, List.length_take]; rfl)) ?_; (with_reducible refine (quernlaw13_right.calls kj3 _ _ l0 a1_0 a1_1 true _ ?side1 ?side2 A13.out).mono ?_); (case side1 => repeat (first | exact (Kd.C_below HR0.out HB.out) | (with_reducible refine Kd.C_alloc ?_ _) | (with_reducible refine Kd.C_drewN ?_ _) | (with_reducible refine Kd.C_drew ?_))); (case side2 => exact HC0.out); rintro e w22 ⟨rfl, hb⟩; refine ⟨_, rfl, ?_⟩; have n0_ := Aside0.mk (Kd.R_below (by (with_reducible repeat (first | apply Kd.R_alloc | apply Kd.R_drewN | apply Kd.R_drew)); exact HO293.out) hb); have n1_ := Aside0.mk (Kd.R_below (by (with_reducible repeat (first | apply Kd.R_alloc | apply Kd.R_drewN | apply Kd.R_drew)); exact HO300.out) hb); have n2_ := Aside0.mk (blk_below (g := gb289) (o := .cells #[.int .i64 a1_0, .int .i64 a1_1] 24 (0, 0)) (by (with_reducible repeat (first | refine blk_drewN ?_ _ | refine blk_drew ?_ | refine blk_alloc ?_ _)); exact BK289.out) hb); have n3_ := Aside0.mk (Kd.C_below (by repeat (first | (with_reducible exact HR297.out) | (with_reducible refine Kd.C_alloc ?_ _) | (with_reducible refine Kd.C_drewN ?_ _) | (with_reducible refine Kd.C_drew ?_) | exact HR297.out)) hb); have n4_ := Aside0.mk (below_step (by repeat (first | (with_reducible first | exact HB.out | apply below_alloc | apply pw_below_drewN | apply below_drew1 | refine below_set ?_ GE289.out) | exact HB.out)) hb); clear HO293; clear HO300; clear BK289; clear HR297; clear HB; have HO293 := n0_; have HO300 := n1_; have BK289 := n2_; have HR297 := n3_; have HB := n4_; clear n0_ n1_ n2_ n3_ n4_; (try clear hb); (try clear hb2); (try clear hk); (try clear hi)))
       (try simp only [Act.put, List.setIfInBounds_toArray, List.set_cons_zero, List.set_cons_succ])
       go_cut [55] (fun v55 wc => ∃ (kq : Nat) (x55_14 : Bool), v55 = .bool x55_14 ∧ Aside0 (quernlaw13_MovesDo.j1 kq l0 t298 x55_14 a1_0 a1_1 = some r) ∧ Aside0 (kq ≤ kj3) ∧ Aside0 (Kd.R k36 36 wc w.heap.size (fun _ => True) v299 t298) ∧ Aside0 (wc.heap[gb289]? = some (.cells #[.int .i64 a1_0, .int .i64 a1_1] 24 (0, 0))) ∧ Aside0 (Kd.C k36 wc Ao19 y294.length y294) ∧ Aside0 (Below w.heap.size w wc))
       case first =>
        have H := HC15.out
        clear HC15
        by_cases c23 : t301 = 0
        ·rw [if_pos c23] at H
         have c23b0 : (t301 == 0) = true := beq_iff_eq.mpr c23
         have c23b1 : (t301 != 0) = false := bne_eq_false_iff_eq.mpr c23
         clear c23
         (first | rw [c23b0] | (simp only [i64_w, i32_w]; rw [c23b0]) | skip)
         have H' := Aside0.mk H
         clear H
         obtain ⟨Ao24, co24, eo24⟩ := Kd.R_slice HO300.out
         subst eo24
         go_wp2
         go_meet
         case rel => exact ⟨_, (decide ((t298.length : Int) > (wrap64 (2 * (l0.length : Int))))), (by first | rfl | (simp; done) | (simp [*]; done)), H', ⟨by have := HJ3.out; first | omega | exact Nat.le_refl _⟩, ⟨by (with_reducible repeat (first | apply Kd.R_alloc | apply Kd.R_drewN | apply Kd.R_drew)); exact Kd.R_mono HO300.out (fun _ hk => trivial)⟩, ⟨by (with_reducible repeat (first | refine blk_drewN ?_ _ | refine blk_drew ?_ | refine blk_alloc ?_ _)); exact BK289.out⟩, ⟨by repeat (first | (with_reducible exact HR297.out) | (with_reducible refine Kd.C_alloc ?_ _) | (with_reducible refine Kd.C_drewN ?_ _) | (with_reducible refine Kd.C_drew ?_) | exact HR297.out)⟩, ⟨by repeat (first | (with_reducible first | exact HB.out | apply below_alloc | apply pw_below_drewN | apply below_drew1 | refine below_set ?_ GE289.out) | exact HB.out)⟩⟩
        ·rw [if_neg c23] at H
         have c23b0 : (t301 == 0) = false := beq_eq_false_iff_ne.mpr c23
         have c23b1 : (t301 != 0) = true := bne_iff_ne.mpr c23
         (first | rw [c23b0] | (simp only [i64_w, i32_w]; rw [c23b0]) | skip)
         have H' := Aside0.mk H
         clear H
         go_wp2
         go_meet
         case rel => exact ⟨_, (true), (by first | rfl | (simp; done) | (simp [*]; done)), H', ⟨by have := HJ3.out; first | omega | exact Nat.le_refl _⟩, ⟨by (with_reducible repeat (first | apply Kd.R_alloc | apply Kd.R_drewN | apply Kd.R_drew)); exact Kd.R_mono HO300.out (fun _ hk => trivial)⟩, ⟨by (with_reducible repeat (first | refine blk_drewN ?_ _ | refine blk_drew ?_ | refine blk_alloc ?_ _)); exact BK289.out⟩, ⟨by repeat (first | (with_reducible exact HR297.out) | (with_reducible refine Kd.C_alloc ?_ _) | (with_reducible refine Kd.C_drewN ?_ _) | (with_reducible refine Kd.C_drew ?_) | exact HR297.out)⟩, ⟨by repeat (first | (with_reducible first | exact HB.out | apply below_alloc | apply pw_below_drewN | apply below_drew1 | refine below_set ?_ GE289.out) | exact HB.out)⟩⟩
       case rest =>
        clear HC15
        try clear c1
        try clear q1
        try clear c2
        try clear p2
        try clear c4
        try clear p6
        try clear c7
        try clear c8
        try clear c9
        try clear c10
        try clear c10b0
        try clear c10b1
        try clear c11
        try clear c11b0
        try clear c11b1
        try clear c14
        try clear q18
        try clear c23
        try clear c23b0
        try clear c23b1
        try clear hcz21_0
        try clear hcz21_1
        try clear hfz21_0
        try clear hfz21_1
        try clear p2
        try clear q18
        obtain ⟨kq, x55_14, rfl, HA, HJ14, HO_7, BK289, HR297, HB⟩ := hcut
        cases kq with
        | zero => exact absurd HA.out (by simp [quernlaw13_MovesDo.j1])
        | succ kj14 =>
         have H := HA.out
         clear HA
         simp only [quernlaw13_MovesDo.j1] at H
         by_cases c25 : x55_14 = true
         ·subst c25
          have H1 : (some false) = some r := by rw [if_pos rfl] at H; exact H
          clear H
          have H := H1
          clear H1
          obtain rfl := Option.some.inj H
          go_wp2
          go_ret
          exact ⟨by first | rfl | (simp [errW_none, errW_some] <;> rfl) | (simp [*, errW_none, errW_some] <;> rfl), by repeat (first | (with_reducible first | exact HB.out | apply below_alloc | apply pw_below_drewN | apply below_drew1 | refine below_set ?_ GE289.out) | exact HB.out)⟩
         ·replace c25 := Bool.eq_false_iff.mpr c25
          subst c25
          have H1 : (quernlaw13_MovesDo.l0 kj14 l0 t298 ([] : List (S39)) 0 a1_0 a1_1) = some r := by rw [if_neg (show ¬ (false = true) by decide)] at H; exact H
          clear H
          have H := H1
          clear H1
          have H' := Aside0.mk H
          clear H
          go_wp2
          go_loopg [9, 10] kj14 (fun kq v9 v10 w' => ∃ (x9_3 : List (S39)) (x10_3 : Int), v10 = .int .i64 x10_3 ∧ Aside0 (quernlaw13_MovesDo.l0 kq l0 t298 x9_3 x10_3 a1_0 a1_1 = some r) ∧ Aside0 (kq ≤ kj14) ∧ Aside0 (Kd.R k36 36 w' w.heap.size (fun _ => True) v299 t298) ∧ Aside0 (Kd.R k39 39 w' w.heap.size (fun _ => True) v9 x9_3) ∧ Aside0 (w'.heap[gb289]? = some (.cells #[.int .i64 a1_0, .int .i64 a1_1] 24 (0, 0))) ∧ Aside0 (Below w.heap.size w w'))
          case atStart => exact ⟨(([] : List (S39))), (0), (by first | rfl | (simp; done) | (simp [*]; done)), H', ⟨Nat.le_refl _⟩, ⟨by (with_reducible repeat (first | apply Kd.R_alloc | apply Kd.R_drewN | apply Kd.R_drew)); exact HO_7.out⟩, ⟨by first | exact Kd.R_nil _ _ _ _ _ | exact Kd.N_nil _ _ _ _ _ | exact Kd.V_nil _ _ _ _ _ | exact Kd.Q_nil _ _ _ _ _ | exact Kd.S_nil _ _ _ _ _⟩, ⟨by (with_reducible repeat (first | refine blk_drewN ?_ _ | refine blk_drew ?_ | refine blk_alloc ?_ _)); exact BK289.out⟩, ⟨by repeat (first | (with_reducible first | exact HB.out | apply below_alloc | apply pw_below_drewN | apply below_drew1 | refine below_set ?_ GE289.out) | exact HB.out)⟩⟩
          case round =>
           clear H'
           try clear c1
           try clear q1
           try clear c2
           try clear p2
           try clear c4
           try clear p6
           try clear c7
           try clear c8
           try clear c9
           try clear c10
           try clear c10b0
           try clear c10b1
           try clear c11
           try clear c11b0
           try clear c11b1
           try clear c14
           try clear q18
           try clear c23
           try clear c23b0
           try clear c23b1
           try clear c25
           try clear hcz21_0
           try clear hcz21_1
           try clear hfz21_0
           try clear hfz21_1
           try clear p2
           try clear p6
           try clear q1
           try clear q18
           obtain ⟨x9_3, x10_3, rfl, HA, HK3, HO_7, HO_9, BK289, HB⟩ := hrel
           cases gk with
           | zero => exact absurd HA.out (by simp [quernlaw13_MovesDo.l0])
           | succ k3 =>
            have H := HA.out
            clear HA
            simp only [quernlaw13_MovesDo.l0] at H
            by_cases c26 : x10_3 < (t298.length : Int)
            ·rw [if_pos c26] at H
             have c26b0 : decide (x10_3 < (t298.length : Int)) = true := decide_eq_true c26
             clear c26
             by_cases c27 : 0 ≤ x10_3
             ·rw [if_pos c27] at H
              have c27b0 : decide (0 ≤ x10_3) = true := decide_eq_true c27
              clear c27
              by_cases c28 : ((rd_T36 t298 x10_3).f0.f0) = 1
              ·rw [if_pos c28] at H
               have c28b0 : (((rd_T36 t298 x10_3).f0.f0) == 1) = true := beq_iff_eq.mpr c28
               have c28b1 : (((rd_T36 t298 x10_3).f0.f0) != 1) = false := bne_eq_false_iff_eq.mpr c28
               clear c28
               replace H := Option.bind_eq_some_iff.mp H
               obtain ⟨t306, A290, H⟩ := H
               replace H : (if x9_3.length < 5864062014805 then (quernlaw13_MovesDo.l0 k3 l0 t298 (x9_3 ++ [(⟨(⟨(rd_T36 t298 x10_3).f0.f0, (rd_T36 t298 x10_3).f0.f1⟩ : S24), t306⟩ : S39)]) (wrap64 (x10_3 + 1)) a1_0 a1_1) else (none)) = some r := H
               have A29 := Aside0.mk A290
               clear A290
               by_cases c30 : x9_3.length < 5864062014805
               ·rw [if_pos c30] at H
                have LMc30 := Aside0.mk c30
                clear c30
                obtain ⟨y307, hy307⟩ : ∃ y_ : List (S39), y_ = (x9_3 ++ [(⟨(⟨(rd_T36 t298 x10_3).f0.f0, (rd_T36 t298 x10_3).f0.f1⟩ : S24), t306⟩ : S39)]) := ⟨_, rfl⟩
                replace H : (quernlaw13_MovesDo.l0 k3 l0 t298 y307 (wrap64 (x10_3 + 1)) a1_0 a1_1) = some r := by first | (rw [hy307]; with_reducible exact H) | (have H2_ := (Option.bind_some _ _).symm.trans H; rw [hy307]; with_reducible exact H2_) | (have H2_ := (Option.bind_some _ _).symm.trans H; with_reducible exact H2_) | with_reducible exact H | (rw [hy307]; exact H) | exact H
                have Ny307 := Aside0.mk hy307
                clear hy307
                have H' := Aside0.mk H
                clear H
                obtain ⟨Ao31, co31, eo31⟩ := Kd.R_slice HO_7.out
                subst eo31
                have p303 : 0 ≤ (x10_3 : Int) := of_decide_eq_true (by first | (with_reducible assumption) | assumption)
                have q303 : x10_3 < (t298.length : Int) := of_decide_eq_true (by first | (with_reducible assumption) | assumption)
                obtain ⟨ad303, e303, hx303_0, hx303_1, hx303_2, hx303_3⟩ := at_T36 (Kd.R_reads' HO_7.out).2.2 x10_3 p303 q303
                cases e303
                replace p303 := eq_true p303
                replace q303 := eq_true q303
                try go_wp2
                have n0_ := Aside0.mk (Kd.R_drew HO_7.out)
                have n1_ := Aside0.mk (Kd.R_drew HO_9.out)
                have n2_ := Aside0.mk (blk_drew BK289.out)
                have n3_ := Aside0.mk (below_drew1 HB.out)
                clear HO_7
                clear HO_9
                clear BK289
                clear HB
                have HO_7 := n0_
                have HO_9 := n1_
                have BK289 := n2_
                have HB := n3_
                clear n0_ n1_ n2_ n3_
                have p304 : 0 ≤ (x10_3 : Int) := of_decide_eq_true (by first | (with_reducible assumption) | assumption)
                have q304 : x10_3 < (t298.length : Int) := of_decide_eq_true (by first | (with_reducible assumption) | assumption)
                obtain ⟨ad304, e304, hx304_0, hx304_1, hx304_2, hx304_3⟩ := at_T36 (Kd.R_reads' HO_7.out).2.2 x10_3 p304 q304
                obtain rfl : ad303 = ad304 := (by injection e304)
                replace p304 := eq_true p304
                replace q304 := eq_true q304
                have p305 : 0 ≤ (x10_3 : Int) := of_decide_eq_true (by first | (with_reducible assumption) | assumption)
                have q305 : x10_3 < (t298.length : Int) := of_decide_eq_true (by first | (with_reducible assumption) | assumption)
                obtain ⟨ad305, e305, hx305_0, hx305_1, hx305_2, hx305_3⟩ := at_T36 (Kd.R_reads' HO_7.out).2.2 x10_3 p305 q305
                obtain rfl : ad303 = ad305 := (by injection e305)
                replace p305 := eq_true p305
                replace q305 := eq_true q305
                obtain ⟨Ao33, co33, eo33⟩ := Kd.R_slice HO_9.out
                (first | subst eo33 | (injection eo33 with f1_ f2_ f3_; have f4_ := f1_.symm; have f5_ := f3_.symm; clear f1_ f2_ f3_; subst f4_; subst f5_))
                refine start_ (n := 17) (S := fun w' => w'.cell? (ad303.add ((x10_3).toNat * 4)) = some (.int .i64 ((rd_T36 t298 x10_3).f0.f0)) ∧ w'.cell? ⟨(ad303.add ((x10_3).toNat * 4)).block, (ad303.add ((x10_3).toNat * 4)).off + 1, none⟩ = some (.int .i64 ((rd_T36 t298 x10_3).f0.f1)) ∧ w'.cell? ⟨(ad303.add ((x10_3).toNat * 4)).block, (ad303.add ((x10_3).toNat * 4)).off + 2, none⟩ = some (.int .i64 ((rd_T36 t298 x10_3).f1.f0)) ∧ w'.cell? ⟨(ad303.add ((x10_3).toNat * 4)).block, (ad303.add ((x10_3).toNat * 4)).off + 3, none⟩ = some (.int .i64 ((rd_T36 t298 x10_3).f1.f1)) ∧ w'.cell? (ad303.add ((x10_3).toNat * 4)) = some (.int .i64 ((rd_T36 t298 x10_3).f0.f0)) ∧ w'.cell? ⟨(ad303.add ((x10_3).toNat * 4)).block, (ad303.add ((x10_3).toNat * 4)).off + 1, none⟩ = some (.int .i64 ((rd_T36 t298 x10_3).f0.f1)) ∧ w'.cell? ⟨(ad303.add ((x10_3).toNat * 4)).block, (ad303.add ((x10_3).toNat * 4)).off + 2, none⟩ = some (.int .i64 ((rd_T36 t298 x10_3).f1.f0)) ∧ w'.cell? ⟨(ad303.add ((x10_3).toNat * 4)).block, (ad303.add ((x10_3).toNat * 4)).off + 3, none⟩ = some (.int .i64 ((rd_T36 t298 x10_3).f1.f1))) (ds := [14, 15]) (bl 0 17) (by kernel_rfl) rfl rfl ⟨hx304_0, hx304_1, hx304_2, hx304_3, hx305_0, hx305_1, hx305_2, hx305_3⟩ (fun hHeld => ?_); refine with_tabW quernlaw13_MovesDo.tab16 quernlaw13_MovesDo.bits16 (fun HT_ HW_ => ?_)
                generalize wr.drew = w32 at HO_7 HO_9 BK289 HB hx304_0 hx304_1 hx304_2 hx304_3 hx305_0 hx305_1 hx305_2 hx305_3 hHeld ⊢
                refine pure_ (i := 0) (N := some 78) (v := ?_) (a' := ?_) (bl 1 17) rfl rfl (any_of HT_.out (by kernel_rfl)) (fun _ _ _ h => h) (Or.inl ⟨by rfl, ?_⟩) ?_ ?_
                rotate_left
                ·intro w'
                 go_simp
                 with_reducible rfl
                rotate_left
                ·simp only [Act.put, List.setIfInBounds_toArray, List.set_cons_zero, List.set_cons_succ, i64_w, i32_w]
                 rfl
                refine pure_ (i := 1) (N := some 79) (v := ?_) (a' := ?_) (bl 2 17) rfl rfl (any_of HT_.out (by kernel_rfl)) (fun _ _ _ h => h) (Or.inl ⟨by rfl, ?_⟩) ?_ ?_
                rotate_left
                ·intro w'
                 go_simp
                 with_reducible rfl
                rotate_left
                ·simp only [Act.put, List.setIfInBounds_toArray, List.set_cons_zero, List.set_cons_succ, i64_w, i32_w]
                 rfl
                refine pure_ (i := 2) (N := some 80) (v := ?_) (a' := ?_) (bl 3 17) rfl rfl (any_of HT_.out (by kernel_rfl)) (fun _ _ _ h => h) (Or.inl ⟨by rfl, ?_⟩) ?_ ?_
                rotate_left
                ·intro w'
                 go_simp
                 with_reducible rfl
                rotate_left
                ·simp only [Act.put, List.setIfInBounds_toArray, List.set_cons_zero, List.set_cons_succ, i64_w, i32_w]
                 rfl
                refine pure_ (i := 3) (N := some 81) (v := ?_) (a' := ?_) (bl 4 17) rfl rfl (any_of HT_.out (by kernel_rfl)) (fun _ _ _ h => h) (Or.inl ⟨by rfl, ?_⟩) ?_ ?_
                rotate_left
                ·intro w'
                 go_simp
                 with_reducible rfl
                rotate_left
                ·simp only [Act.put, List.setIfInBounds_toArray, List.set_cons_zero, List.set_cons_succ, i64_w, i32_w]
                 rfl
                refine pure_ (i := 4) (N := some 82) (v := ?_) (a' := ?_) (bl 5 17) rfl rfl (any_of HT_.out (by kernel_rfl)) (fun _ _ _ h => h) (Or.inl ⟨by rfl, ?_⟩) ?_ ?_
                rotate_left
                ·intro w'
                 go_simp
                 with_reducible rfl
                rotate_left
                ·simp only [Act.put, List.setIfInBounds_toArray, List.set_cons_zero, List.set_cons_succ, i64_w, i32_w]
                 rfl
                refine pure_ (i := 6) (N := some 84) (v := ?_) (a' := ?_) #[true, true, true, true, true, false, true, false, false, false, false, false, false, false, false, false, false] rfl rfl (any_of HT_.out (by kernel_rfl)) (fun _ _ _ h => h) (Or.inl ⟨by rfl, ?_⟩) ?_ ?_
                rotate_left
                ·intro w'
                 go_simp
                 with_reducible rfl
                rotate_left
                ·simp only [Act.put, List.setIfInBounds_toArray, List.set_cons_zero, List.set_cons_succ, i64_w, i32_w]
                 rfl
                refine pure_ (i := 7) (N := some 85) (v := ?_) (a' := ?_) #[true, true, true, true, true, false, true, true, false, false, false, false, false, false, false, false, false] rfl rfl (any_of HT_.out (by kernel_rfl)) (fun _ _ _ h => h) (Or.inl ⟨by rfl, ?_⟩) ?_ ?_
                rotate_left
                ·intro w'
                 go_simp
                 with_reducible rfl
                rotate_left
                ·simp only [Act.put, List.setIfInBounds_toArray, List.set_cons_zero, List.set_cons_succ, i64_w, i32_w]
                 rfl
                refine pure_ (i := 8) (N := some 86) (v := ?_) (a' := ?_) #[true, true, true, true, true, false, true, true, true, false, false, false, false, false, false, false, false] rfl rfl (any_of HT_.out (by kernel_rfl)) (fun _ _ _ h => h) (Or.inl ⟨by rfl, ?_⟩) ?_ ?_
                rotate_left
                ·intro w'
                 go_simp
                 with_reducible rfl
                rotate_left
                ·simp only [Act.put, List.setIfInBounds_toArray, List.set_cons_zero, List.set_cons_succ, i64_w, i32_w]
                 rfl
                refine pure_ (i := 9) (N := some 87) (v := ?_) (a' := ?_) #[true, true, true, true, true, false, true, true, true, true, false, false, false, false, false, false, false] rfl rfl (any_of HT_.out (by kernel_rfl)) (fun _ _ _ h => h) (Or.inl ⟨by rfl, ?_⟩) ?_ ?_
                rotate_left
                ·intro w'
                 go_simp
                 with_reducible rfl
                rotate_left
                ·simp only [Act.put, List.setIfInBounds_toArray, List.set_cons_zero, List.set_cons_succ, i64_w, i32_w]
                 rfl
                refine pure_ (i := 10) (N := some 88) (v := ?_) (a' := ?_) #[true, true, true, true, true, false, true, true, true, true, true, false, false, false, false, false, false] rfl rfl (any_of HT_.out (by kernel_rfl)) (fun _ _ _ h => h) (Or.inl ⟨by rfl, ?_⟩) ?_ ?_
                rotate_left
                ·intro w'
                 go_simp
                 with_reducible rfl
                rotate_left
                ·simp only [Act.put, List.setIfInBounds_toArray, List.set_cons_zero, List.set_cons_succ, i64_w, i32_w]
                 rfl
                refine take_ (i := 5) (N := some 83) (v := ?_) (a' := ?_) (bl 11 17) rfl rfl (take_ofW HT_.out HW_.out (by kernel_rfl)) (fun _ _ _ h => h) (Or.inl ⟨by rfl, ?_⟩) hHeld ?_ ?_
                rotate_left
                ·rintro w' ⟨s0, s1, s2, s3, s4, s5, s6, s7⟩
                 go_simp
                 with_reducible rfl
                rotate_left
                ·simp only [Act.put, List.setIfInBounds_toArray, List.set_cons_zero, List.set_cons_succ, i64_w, i32_w]
                 rfl
                refine take_ (i := 11) (N := some 89) (v := ?_) (a' := ?_) (bl 12 17) rfl rfl (take_ofW HT_.out HW_.out (by kernel_rfl)) (fun _ _ _ h => h) (Or.inl ⟨by rfl, ?_⟩) hHeld ?_ ?_
                rotate_left
                ·rintro w' ⟨s0, s1, s2, s3, s4, s5, s6, s7⟩
                 go_simp
                 with_reducible rfl
                rotate_left
                ·simp only [Act.put, List.setIfInBounds_toArray, List.set_cons_zero, List.set_cons_succ, i64_w, i32_w]
                 rfl
                refine one_ (i := 12) (N := some 90) (bl 13 17) rfl rfl (one_of HT_.out (by kernel_rfl)) (by decide) (fun K hK => ?_)
                refine goes_ Try.func15 (by kernel_rfl) rfl #[.slice Ao33 x9_3.length co33, .agg #[.int .i64 ((rd_T36 t298 x10_3).f1.f0), .int .i64 ((rd_T36 t298 x10_3).f1.f1)]] (by rfl) rfl rfl (by (try simp only [List.map_toArray, List.map_cons, List.map_nil]); first | done | rfl | (simp only [List.length_drop, List.length_take]; rfl)) ?_
                with_reducible refine (quernlaw13_held.calls k3 _ _ x9_3 ((rd_T36 t298 x10_3).f1.f0) ((rd_T36 t298 x10_3).f1.f1) t306 _ ?side1 ?side2 A29.out).mono ?_
                (case side1 => repeat (first | exact (Kd.R_reads' HO_9.out).2.2 | (with_reducible refine Kd.C_alloc ?_ _) | (with_reducible refine Kd.C_drewN ?_ _) | (with_reducible refine Kd.C_drew ?_)))
                (case side2 => exact (Kd.R_reads' HO_9.out).2.1)
                rintro e w34 ⟨rfl, hb⟩
                have HS0_ := (hb.cell (World.block_lt_of_cell? _ _ (hHeld.1))).trans (hHeld.1)
                have HS1_ := (hb.cell (World.block_lt_of_cell? _ _ (hHeld.2.1))).trans (hHeld.2.1)
                have HS2_ := (hb.cell (World.block_lt_of_cell? _ _ (hHeld.2.2.1))).trans (hHeld.2.2.1)
                have HS3_ := (hb.cell (World.block_lt_of_cell? _ _ (hHeld.2.2.2.1))).trans (hHeld.2.2.2.1)
                have HS4_ := (hb.cell (World.block_lt_of_cell? _ _ (hHeld.2.2.2.2.1))).trans (hHeld.2.2.2.2.1)
                have HS5_ := (hb.cell (World.block_lt_of_cell? _ _ (hHeld.2.2.2.2.2.1))).trans (hHeld.2.2.2.2.2.1)
                have HS6_ := (hb.cell (World.block_lt_of_cell? _ _ (hHeld.2.2.2.2.2.2.1))).trans (hHeld.2.2.2.2.2.2.1)
                have HS7_ := (hb.cell (World.block_lt_of_cell? _ _ (hHeld.2.2.2.2.2.2.2))).trans (hHeld.2.2.2.2.2.2.2)
                refine ⟨_, rfl, ?_⟩
                have n0_ := Aside0.mk (Kd.R_below (by (with_reducible repeat (first | apply Kd.R_alloc | apply Kd.R_drewN | apply Kd.R_drew)); exact HO_7.out) hb)
                have n1_ := Aside0.mk (Kd.R_below (by (with_reducible repeat (first | apply Kd.R_alloc | apply Kd.R_drewN | apply Kd.R_drew)); exact HO_9.out) hb)
                have n2_ := Aside0.mk (blk_below (g := gb289) (o := .cells #[.int .i64 a1_0, .int .i64 a1_1] 24 (0, 0)) (by (with_reducible repeat (first | refine blk_drewN ?_ _ | refine blk_drew ?_ | refine blk_alloc ?_ _)); exact BK289.out) hb)
                have n3_ := Aside0.mk (below_step (by repeat (first | (with_reducible first | exact HB.out | apply below_alloc | apply pw_below_drewN | apply below_drew1 | refine below_set ?_ GE289.out) | exact HB.out)) hb)
                clear HO_7
                clear HO_9
                clear BK289
                clear HB
                have HO_7 := n0_
                have HO_9 := n1_
                have BK289 := n2_
                have HB := n3_
                clear n0_ n1_ n2_ n3_
                (try clear hb)
                (try clear hb2)
                (try clear hk)
                (try clear hi)
                refine hK.out _ _ ⟨HS0_, HS1_, HS2_, HS3_, HS4_, HS5_, HS6_, HS7_⟩ (fun hHeld => ?_)
                clear hK K
                refine norm_ (a' := ?_) ?_ ?_
                rotate_left
                ·show Act.put _ (some 90) _ = _
                 simp only [Act.put, List.setIfInBounds_toArray, List.set_cons_zero, List.set_cons_succ, i64_w, i32_w]
                 rfl
                refine pure_ (i := 13) (N := some 91) (v := ?_) (a' := ?_) (bl 14 17) rfl rfl (any_of HT_.out (by kernel_rfl)) (fun _ _ _ h => h) (Or.inl ⟨by rfl, ?_⟩) ?_ ?_
                rotate_left
                ·intro w'
                 go_simp
                 with_reducible rfl
                rotate_left
                ·simp only [Act.put, List.setIfInBounds_toArray, List.set_cons_zero, List.set_cons_succ, i64_w, i32_w]
                 rfl
                refine last_ (i := 14) (N := some 92) (bl 15 17) rfl rfl (one_of HT_.out (by kernel_rfl)) (by decide) (fun K hK => ?_)
                refine value_ (w1 := ?_) (v := ?_) (by rfl) rfl ?_ ?_
                rotate_left 2
                ·go_simp
                 constructor
                 ·rfl
                 ·rfl
                refine hK.out _ _ ?_
                clear hK K
                refine norm_ (a' := ?_) ?_ ?_
                rotate_left
                ·show Act.put _ (some 92) _ = _
                 simp only [Act.put, List.setIfInBounds_toArray, List.set_cons_zero, List.set_cons_succ, i64_w, i32_w]
                 rfl
                refine last_ (i := 15) (N := some 93) (bl 16 17) rfl rfl (one_of HT_.out (by kernel_rfl)) (by decide) (fun K hK => ?_)
                refine Kd.R_append_step k39 (w0 := w) w.heap.size (by rfl) (.tmp 78) (.tmp 92) 34 39 (.agg #[(.int .i64 0), (.int .i64 0), (.int .i64 0)]) 24 rfl Try.underlying34 info39 rfl (by decide) (by omega) (.slice Ao33 x9_3.length co33) x9_3 (⟨(⟨(rd_T36 t298 x10_3).f0.f0, (rd_T36 t298 x10_3).f0.f1⟩ : S24), t306⟩ : S39) [.int .i64 ((rd_T36 t298 x10_3).f0.f0), .int .i64 ((rd_T36 t298 x10_3).f0.f1), .int .i64 t306] (fun _ => True) (fun _ => False) rfl rfl ?aP (fun _ hk => hk.elim) ?aF ?aO ?aB ?aS ?aL ?_
                (case aP => exact k39_mkM _ _ _ (⟨(⟨(rd_T36 t298 x10_3).f0.f0, (rd_T36 t298 x10_3).f0.f1⟩ : S24), t306⟩ : S39))
                (case aB => exact (by repeat (first | (with_reducible first | exact HB.out | apply below_alloc | apply pw_below_drewN | apply below_drew1 | refine below_set ?_ GE289.out) | exact HB.out)))
                (case aF => exact (fun _ _ => trivial))
                (case aO => exact (by (with_reducible repeat (first | apply Kd.R_alloc | apply Kd.R_drewN | apply Kd.R_drew)); exact HO_9.out))
                (case aS => exact (below_size (by repeat (first | (with_reducible first | exact HB.out | apply below_alloc | apply pw_below_drewN | apply below_drew1 | refine below_set ?_ GE289.out) | exact HB.out))))
                (case aL => have := LMc30.out; omega)
                intro v308 w35 ho hb hg hat
                rw [← Ny307.out] at ho
                have n0_ := Aside0.mk (Kd.R_over' (by (with_reducible repeat (first | apply Kd.R_alloc | apply Kd.R_drewN | apply Kd.R_drew)); exact HO_7.out) (Kd.R_typed (by (with_reducible repeat (first | apply Kd.R_alloc | apply Kd.R_drewN | apply Kd.R_drew)); exact HO_9.out)) (by decide) hg)
                have n1_ := Aside0.mk (blk_grown (g := gb289) (o := .cells #[.int .i64 a1_0, .int .i64 a1_1] 24 (0, 0)) (by (with_reducible repeat (first | refine blk_drewN ?_ _ | refine blk_drew ?_ | refine blk_alloc ?_ _)); exact BK289.out) hg (Kd.R_ne HO_9.out BK289.out (by decide)))
                have n2_ := Aside0.mk (hb)
                have n3_ := Aside0.mk (ho)
                clear HO_7
                clear BK289
                clear HB
                clear HO_9
                have HO_7 := n0_
                have BK289 := n1_
                have HB := n2_
                have HO309 := n3_
                clear n0_ n1_ n2_ n3_
                clear ho hb hg hat
                refine hK.out _ _ ?_
                clear hK K
                refine norm_ (a' := ?_) ?_ ?_
                rotate_left
                ·show Act.put _ (some 93) _ = _
                 simp only [Act.put, List.setIfInBounds_toArray, List.set_cons_zero, List.set_cons_succ, i64_w, i32_w]
                 rfl
                refine pure_ (i := 16) (N := some 9) (v := ?_) (a' := ?_) (bl 17 17) rfl rfl (any_of HT_.out (by kernel_rfl)) (fun _ _ _ h => h) (Or.inl ⟨by rfl, ?_⟩) ?_ ?_
                rotate_left
                ·intro w'
                 go_simp
                 with_reducible rfl
                rotate_left
                ·simp only [Act.put, List.setIfInBounds_toArray, List.set_cons_zero, List.set_cons_succ, i64_w, i32_w]
                 rfl
                refine done_ (done_of HT_.out (by kernel_rfl)) ?_
                try go_wp2
                go_roundg k3
                case measure => have := HJ3.out; have := HJ14.out; have := HK3.out; omega
                case rel => exact ⟨(y307), (wrap64 (x10_3 + 1)), (by first | rfl | (simp; done) | (simp [*]; done)), H', ⟨by have := HJ3.out; have := HJ14.out; have := HK3.out; omega⟩, ⟨by (with_reducible repeat (first | apply Kd.R_alloc | apply Kd.R_drewN | apply Kd.R_drew)); exact HO_7.out⟩, ⟨by (with_reducible repeat (first | apply Kd.R_alloc | apply Kd.R_drewN | apply Kd.R_drew)); exact HO309.out⟩, ⟨by (with_reducible repeat (first | refine blk_drewN ?_ _ | refine blk_drew ?_ | refine blk_alloc ?_ _)); exact BK289.out⟩, ⟨by repeat (first | (with_reducible first | exact HB.out | apply below_alloc | apply pw_below_drewN | apply below_drew1 | refine below_set ?_ GE289.out) | exact HB.out)⟩⟩
               ·rw [if_neg c30] at H
                exact absurd H (by simp)
              ·rw [if_neg c28] at H
               have c28b0 : (((rd_T36 t298 x10_3).f0.f0) == 1) = false := beq_eq_false_iff_ne.mpr c28
               have c28b1 : (((rd_T36 t298 x10_3).f0.f0) != 1) = true := bne_iff_ne.mpr c28
               by_cases c36 : ((rd_T36 t298 x10_3).f0.f0) = 2
               ·rw [if_pos c36] at H
                have c36b0 : (((rd_T36 t298 x10_3).f0.f0) == 2) = true := beq_iff_eq.mpr c36
                have c36b1 : (((rd_T36 t298 x10_3).f0.f0) != 2) = false := bne_eq_false_iff_eq.mpr c36
                clear c36
                replace H := Option.bind_eq_some_iff.mp H
                obtain ⟨t313, A370, H⟩ := H
                replace H : (if x9_3.length < 5864062014805 then (quernlaw13_MovesDo.l0 k3 l0 t298 (x9_3 ++ [(⟨(⟨(rd_T36 t298 x10_3).f0.f0, (rd_T36 t298 x10_3).f0.f1⟩ : S24), t313⟩ : S39)]) (wrap64 (x10_3 + 1)) a1_0 a1_1) else (none)) = some r := H
                have A37 := Aside0.mk A370
                clear A370
                by_cases c38 : x9_3.length < 5864062014805
                ·rw [if_pos c38] at H
                 have LMc38 := Aside0.mk c38
                 clear c38
                 obtain ⟨y314, hy314⟩ : ∃ y_ : List (S39), y_ = (x9_3 ++ [(⟨(⟨(rd_T36 t298 x10_3).f0.f0, (rd_T36 t298 x10_3).f0.f1⟩ : S24), t313⟩ : S39)]) := ⟨_, rfl⟩
                 replace H : (quernlaw13_MovesDo.l0 k3 l0 t298 y314 (wrap64 (x10_3 + 1)) a1_0 a1_1) = some r := by first | (rw [hy314]; with_reducible exact H) | (have H2_ := (Option.bind_some _ _).symm.trans H; rw [hy314]; with_reducible exact H2_) | (have H2_ := (Option.bind_some _ _).symm.trans H; with_reducible exact H2_) | with_reducible exact H | (rw [hy314]; exact H) | exact H
                 have Ny314 := Aside0.mk hy314
                 clear hy314
                 have H' := Aside0.mk H
                 clear H
                 obtain ⟨Ao39, co39, eo39⟩ := Kd.R_slice HO_7.out
                 subst eo39
                 have p303 : 0 ≤ (x10_3 : Int) := of_decide_eq_true (by first | (with_reducible assumption) | assumption)
                 have q303 : x10_3 < (t298.length : Int) := of_decide_eq_true (by first | (with_reducible assumption) | assumption)
                 obtain ⟨ad303, e303, hx303_0, hx303_1, hx303_2, hx303_3⟩ := at_T36 (Kd.R_reads' HO_7.out).2.2 x10_3 p303 q303
                 cases e303
                 replace p303 := eq_true p303
                 replace q303 := eq_true q303
                 have p310 : 0 ≤ (x10_3 : Int) := of_decide_eq_true (by first | (with_reducible assumption) | assumption)
                 have q310 : x10_3 < (t298.length : Int) := of_decide_eq_true (by first | (with_reducible assumption) | assumption)
                 obtain ⟨ad310, e310, hx310_0, hx310_1, hx310_2, hx310_3⟩ := at_T36 (Kd.R_reads' HO_7.out).2.2 x10_3 p310 q310
                 obtain rfl : ad303 = ad310 := (by injection e310)
                 replace p310 := eq_true p310
                 replace q310 := eq_true q310
                 try go_wp2
                 have n0_ := Aside0.mk (Kd.R_drew HO_7.out)
                 have n1_ := Aside0.mk (Kd.R_drew HO_9.out)
                 have n2_ := Aside0.mk (blk_drew BK289.out)
                 have n3_ := Aside0.mk (below_drew1 HB.out)
                 clear HO_7
                 clear HO_9
                 clear BK289
                 clear HB
                 have HO_7 := n0_
                 have HO_9 := n1_
                 have BK289 := n2_
                 have HB := n3_
                 clear n0_ n1_ n2_ n3_
                 have p311 : 0 ≤ (x10_3 : Int) := of_decide_eq_true (by first | (with_reducible assumption) | assumption)
                 have q311 : x10_3 < (t298.length : Int) := of_decide_eq_true (by first | (with_reducible assumption) | assumption)
                 obtain ⟨ad311, e311, hx311_0, hx311_1, hx311_2, hx311_3⟩ := at_T36 (Kd.R_reads' HO_7.out).2.2 x10_3 p311 q311
                 obtain rfl : ad303 = ad311 := (by injection e311)
                 replace p311 := eq_true p311
                 replace q311 := eq_true q311
                 have p312 : 0 ≤ (x10_3 : Int) := of_decide_eq_true (by first | (with_reducible assumption) | assumption)
                 have q312 : x10_3 < (t298.length : Int) := of_decide_eq_true (by first | (with_reducible assumption) | assumption)
                 obtain ⟨ad312, e312, hx312_0, hx312_1, hx312_2, hx312_3⟩ := at_T36 (Kd.R_reads' HO_7.out).2.2 x10_3 p312 q312
                 obtain rfl : ad303 = ad312 := (by injection e312)
                 replace p312 := eq_true p312
                 replace q312 := eq_true q312
                 obtain ⟨Ao41, co41, eo41⟩ := Kd.R_slice HO_9.out
                 (first | subst eo41 | (injection eo41 with f1_ f2_ f3_; have f4_ := f1_.symm; have f5_ := f3_.symm; clear f1_ f2_ f3_; subst f4_; subst f5_))
                 refine start_ (n := 17) (S := fun w' => w'.cell? (ad303.add ((x10_3).toNat * 4)) = some (.int .i64 ((rd_T36 t298 x10_3).f0.f0)) ∧ w'.cell? ⟨(ad303.add ((x10_3).toNat * 4)).block, (ad303.add ((x10_3).toNat * 4)).off + 1, none⟩ = some (.int .i64 ((rd_T36 t298 x10_3).f0.f1)) ∧ w'.cell? ⟨(ad303.add ((x10_3).toNat * 4)).block, (ad303.add ((x10_3).toNat * 4)).off + 2, none⟩ = some (.int .i64 ((rd_T36 t298 x10_3).f1.f0)) ∧ w'.cell? ⟨(ad303.add ((x10_3).toNat * 4)).block, (ad303.add ((x10_3).toNat * 4)).off + 3, none⟩ = some (.int .i64 ((rd_T36 t298 x10_3).f1.f1)) ∧ w'.cell? (ad303.add ((x10_3).toNat * 4)) = some (.int .i64 ((rd_T36 t298 x10_3).f0.f0)) ∧ w'.cell? ⟨(ad303.add ((x10_3).toNat * 4)).block, (ad303.add ((x10_3).toNat * 4)).off + 1, none⟩ = some (.int .i64 ((rd_T36 t298 x10_3).f0.f1)) ∧ w'.cell? ⟨(ad303.add ((x10_3).toNat * 4)).block, (ad303.add ((x10_3).toNat * 4)).off + 2, none⟩ = some (.int .i64 ((rd_T36 t298 x10_3).f1.f0)) ∧ w'.cell? ⟨(ad303.add ((x10_3).toNat * 4)).block, (ad303.add ((x10_3).toNat * 4)).off + 3, none⟩ = some (.int .i64 ((rd_T36 t298 x10_3).f1.f1))) (ds := [14, 15]) (bl 0 17) (by kernel_rfl) rfl rfl ⟨hx311_0, hx311_1, hx311_2, hx311_3, hx312_0, hx312_1, hx312_2, hx312_3⟩ (fun hHeld => ?_); refine with_tabW quernlaw13_MovesDo.tab16 quernlaw13_MovesDo.bits16 (fun HT_ HW_ => ?_)
                 generalize wr.drew = w40 at HO_7 HO_9 BK289 HB hx311_0 hx311_1 hx311_2 hx311_3 hx312_0 hx312_1 hx312_2 hx312_3 hHeld ⊢
                 refine pure_ (i := 0) (N := some 78) (v := ?_) (a' := ?_) (bl 1 17) rfl rfl (any_of HT_.out (by kernel_rfl)) (fun _ _ _ h => h) (Or.inl ⟨by rfl, ?_⟩) ?_ ?_
                 rotate_left
                 ·intro w'
                  go_simp
                  with_reducible rfl
                 rotate_left
                 ·simp only [Act.put, List.setIfInBounds_toArray, List.set_cons_zero, List.set_cons_succ, i64_w, i32_w]
                  rfl
                 refine pure_ (i := 1) (N := some 79) (v := ?_) (a' := ?_) (bl 2 17) rfl rfl (any_of HT_.out (by kernel_rfl)) (fun _ _ _ h => h) (Or.inl ⟨by rfl, ?_⟩) ?_ ?_
                 rotate_left
                 ·intro w'
                  go_simp
                  with_reducible rfl
                 rotate_left
                 ·simp only [Act.put, List.setIfInBounds_toArray, List.set_cons_zero, List.set_cons_succ, i64_w, i32_w]
                  rfl
                 refine pure_ (i := 2) (N := some 80) (v := ?_) (a' := ?_) (bl 3 17) rfl rfl (any_of HT_.out (by kernel_rfl)) (fun _ _ _ h => h) (Or.inl ⟨by rfl, ?_⟩) ?_ ?_
                 rotate_left
                 ·intro w'
                  go_simp
                  with_reducible rfl
                 rotate_left
                 ·simp only [Act.put, List.setIfInBounds_toArray, List.set_cons_zero, List.set_cons_succ, i64_w, i32_w]
                  rfl
                 refine pure_ (i := 3) (N := some 81) (v := ?_) (a' := ?_) (bl 4 17) rfl rfl (any_of HT_.out (by kernel_rfl)) (fun _ _ _ h => h) (Or.inl ⟨by rfl, ?_⟩) ?_ ?_
                 rotate_left
                 ·intro w'
                  go_simp
                  with_reducible rfl
                 rotate_left
                 ·simp only [Act.put, List.setIfInBounds_toArray, List.set_cons_zero, List.set_cons_succ, i64_w, i32_w]
                  rfl
                 refine pure_ (i := 4) (N := some 82) (v := ?_) (a' := ?_) (bl 5 17) rfl rfl (any_of HT_.out (by kernel_rfl)) (fun _ _ _ h => h) (Or.inl ⟨by rfl, ?_⟩) ?_ ?_
                 rotate_left
                 ·intro w'
                  go_simp
                  with_reducible rfl
                 rotate_left
                 ·simp only [Act.put, List.setIfInBounds_toArray, List.set_cons_zero, List.set_cons_succ, i64_w, i32_w]
                  rfl
                 refine pure_ (i := 6) (N := some 84) (v := ?_) (a' := ?_) #[true, true, true, true, true, false, true, false, false, false, false, false, false, false, false, false, false] rfl rfl (any_of HT_.out (by kernel_rfl)) (fun _ _ _ h => h) (Or.inl ⟨by rfl, ?_⟩) ?_ ?_
                 rotate_left
                 ·intro w'
                  go_simp
                  with_reducible rfl
                 rotate_left
                 ·simp only [Act.put, List.setIfInBounds_toArray, List.set_cons_zero, List.set_cons_succ, i64_w, i32_w]
                  rfl
                 refine pure_ (i := 7) (N := some 85) (v := ?_) (a' := ?_) #[true, true, true, true, true, false, true, true, false, false, false, false, false, false, false, false, false] rfl rfl (any_of HT_.out (by kernel_rfl)) (fun _ _ _ h => h) (Or.inl ⟨by rfl, ?_⟩) ?_ ?_
                 rotate_left
                 ·intro w'
                  go_simp
                  with_reducible rfl
                 rotate_left
                 ·simp only [Act.put, List.setIfInBounds_toArray, List.set_cons_zero, List.set_cons_succ, i64_w, i32_w]
                  rfl
                 refine pure_ (i := 8) (N := some 86) (v := ?_) (a' := ?_) #[true, true, true, true, true, false, true, true, true, false, false, false, false, false, false, false, false] rfl rfl (any_of HT_.out (by kernel_rfl)) (fun _ _ _ h => h) (Or.inl ⟨by rfl, ?_⟩) ?_ ?_
                 rotate_left
                 ·intro w'
                  go_simp
                  with_reducible rfl
                 rotate_left
                 ·simp only [Act.put, List.setIfInBounds_toArray, List.set_cons_zero, List.set_cons_succ, i64_w, i32_w]
                  rfl
                 refine pure_ (i := 9) (N := some 87) (v := ?_) (a' := ?_) #[true, true, true, true, true, false, true, true, true, true, false, false, false, false, false, false, false] rfl rfl (any_of HT_.out (by kernel_rfl)) (fun _ _ _ h => h) (Or.inl ⟨by rfl, ?_⟩) ?_ ?_
                 rotate_left
                 ·intro w'
                  go_simp
                  with_reducible rfl
                 rotate_left
                 ·simp only [Act.put, List.setIfInBounds_toArray, List.set_cons_zero, List.set_cons_succ, i64_w, i32_w]
                  rfl
                 refine pure_ (i := 10) (N := some 88) (v := ?_) (a' := ?_) #[true, true, true, true, true, false, true, true, true, true, true, false, false, false, false, false, false] rfl rfl (any_of HT_.out (by kernel_rfl)) (fun _ _ _ h => h) (Or.inl ⟨by rfl, ?_⟩) ?_ ?_
                 rotate_left
                 ·intro w'
                  go_simp
                  with_reducible rfl
                 rotate_left
                 ·simp only [Act.put, List.setIfInBounds_toArray, List.set_cons_zero, List.set_cons_succ, i64_w, i32_w]
                  rfl
                 refine take_ (i := 5) (N := some 83) (v := ?_) (a' := ?_) (bl 11 17) rfl rfl (take_ofW HT_.out HW_.out (by kernel_rfl)) (fun _ _ _ h => h) (Or.inl ⟨by rfl, ?_⟩) hHeld ?_ ?_
                 rotate_left
                 ·rintro w' ⟨s0, s1, s2, s3, s4, s5, s6, s7⟩
                  go_simp
                  with_reducible rfl
                 rotate_left
                 ·simp only [Act.put, List.setIfInBounds_toArray, List.set_cons_zero, List.set_cons_succ, i64_w, i32_w]
                  rfl
                 refine take_ (i := 11) (N := some 89) (v := ?_) (a' := ?_) (bl 12 17) rfl rfl (take_ofW HT_.out HW_.out (by kernel_rfl)) (fun _ _ _ h => h) (Or.inl ⟨by rfl, ?_⟩) hHeld ?_ ?_
                 rotate_left
                 ·rintro w' ⟨s0, s1, s2, s3, s4, s5, s6, s7⟩
                  go_simp
                  with_reducible rfl
                 rotate_left
                 ·simp only [Act.put, List.setIfInBounds_toArray, List.set_cons_zero, List.set_cons_succ, i64_w, i32_w]
                  rfl
                 refine one_ (i := 12) (N := some 90) (bl 13 17) rfl rfl (one_of HT_.out (by kernel_rfl)) (by decide) (fun K hK => ?_)
                 refine goes_ Try.func15 (by kernel_rfl) rfl #[.slice Ao41 x9_3.length co41, .agg #[.int .i64 ((rd_T36 t298 x10_3).f1.f0), .int .i64 ((rd_T36 t298 x10_3).f1.f1)]] (by rfl) rfl rfl (by (try simp only [List.map_toArray, List.map_cons, List.map_nil]); first | done | rfl | (simp only [List.length_drop, List.length_take]; rfl)) ?_
                 with_reducible refine (quernlaw13_held.calls k3 _ _ x9_3 ((rd_T36 t298 x10_3).f1.f0) ((rd_T36 t298 x10_3).f1.f1) t313 _ ?side1 ?side2 A37.out).mono ?_
                 (case side1 => repeat (first | exact (Kd.R_reads' HO_9.out).2.2 | (with_reducible refine Kd.C_alloc ?_ _) | (with_reducible refine Kd.C_drewN ?_ _) | (with_reducible refine Kd.C_drew ?_)))
                 (case side2 => exact (Kd.R_reads' HO_9.out).2.1)
                 rintro e w42 ⟨rfl, hb⟩
                 have HS0_ := (hb.cell (World.block_lt_of_cell? _ _ (hHeld.1))).trans (hHeld.1)
                 have HS1_ := (hb.cell (World.block_lt_of_cell? _ _ (hHeld.2.1))).trans (hHeld.2.1)
                 have HS2_ := (hb.cell (World.block_lt_of_cell? _ _ (hHeld.2.2.1))).trans (hHeld.2.2.1)
                 have HS3_ := (hb.cell (World.block_lt_of_cell? _ _ (hHeld.2.2.2.1))).trans (hHeld.2.2.2.1)
                 have HS4_ := (hb.cell (World.block_lt_of_cell? _ _ (hHeld.2.2.2.2.1))).trans (hHeld.2.2.2.2.1)
                 have HS5_ := (hb.cell (World.block_lt_of_cell? _ _ (hHeld.2.2.2.2.2.1))).trans (hHeld.2.2.2.2.2.1)
                 have HS6_ := (hb.cell (World.block_lt_of_cell? _ _ (hHeld.2.2.2.2.2.2.1))).trans (hHeld.2.2.2.2.2.2.1)
                 have HS7_ := (hb.cell (World.block_lt_of_cell? _ _ (hHeld.2.2.2.2.2.2.2))).trans (hHeld.2.2.2.2.2.2.2)
                 refine ⟨_, rfl, ?_⟩
                 have n0_ := Aside0.mk (Kd.R_below (by (with_reducible repeat (first | apply Kd.R_alloc | apply Kd.R_drewN | apply Kd.R_drew)); exact HO_7.out) hb)
                 have n1_ := Aside0.mk (Kd.R_below (by (with_reducible repeat (first | apply Kd.R_alloc | apply Kd.R_drewN | apply Kd.R_drew)); exact HO_9.out) hb)
                 have n2_ := Aside0.mk (blk_below (g := gb289) (o := .cells #[.int .i64 a1_0, .int .i64 a1_1] 24 (0, 0)) (by (with_reducible repeat (first | refine blk_drewN ?_ _ | refine blk_drew ?_ | refine blk_alloc ?_ _)); exact BK289.out) hb)
                 have n3_ := Aside0.mk (below_step (by repeat (first | (with_reducible first | exact HB.out | apply below_alloc | apply pw_below_drewN | apply below_drew1 | refine below_set ?_ GE289.out) | exact HB.out)) hb)
                 clear HO_7
                 clear HO_9
                 clear BK289
                 clear HB
                 have HO_7 := n0_
                 have HO_9 := n1_
                 have BK289 := n2_
                 have HB := n3_
                 clear n0_ n1_ n2_ n3_
                 (try clear hb)
                 (try clear hb2)
                 (try clear hk)
                 (try clear hi)
                 refine hK.out _ _ ⟨HS0_, HS1_, HS2_, HS3_, HS4_, HS5_, HS6_, HS7_⟩ (fun hHeld => ?_)
                 clear hK K
                 refine norm_ (a' := ?_) ?_ ?_
                 rotate_left
                 ·show Act.put _ (some 90) _ = _
                  simp only [Act.put, List.setIfInBounds_toArray, List.set_cons_zero, List.set_cons_succ, i64_w, i32_w]
                  rfl
                 refine pure_ (i := 13) (N := some 91) (v := ?_) (a' := ?_) (bl 14 17) rfl rfl (any_of HT_.out (by kernel_rfl)) (fun _ _ _ h => h) (Or.inl ⟨by rfl, ?_⟩) ?_ ?_
                 rotate_left
                 ·intro w'
                  go_simp
                  with_reducible rfl
                 rotate_left
                 ·simp only [Act.put, List.setIfInBounds_toArray, List.set_cons_zero, List.set_cons_succ, i64_w, i32_w]
                  rfl
                 refine last_ (i := 14) (N := some 92) (bl 15 17) rfl rfl (one_of HT_.out (by kernel_rfl)) (by decide) (fun K hK => ?_)
                 refine value_ (w1 := ?_) (v := ?_) (by rfl) rfl ?_ ?_
                 rotate_left 2
                 ·go_simp
                  constructor
                  ·rfl
                  ·rfl
                 refine hK.out _ _ ?_
                 clear hK K
                 refine norm_ (a' := ?_) ?_ ?_
                 rotate_left
                 ·show Act.put _ (some 92) _ = _
                  simp only [Act.put, List.setIfInBounds_toArray, List.set_cons_zero, List.set_cons_succ, i64_w, i32_w]
                  rfl
                 refine last_ (i := 15) (N := some 93) (bl 16 17) rfl rfl (one_of HT_.out (by kernel_rfl)) (by decide) (fun K hK => ?_)
                 refine Kd.R_append_step k39 (w0 := w) w.heap.size (by rfl) (.tmp 78) (.tmp 92) 34 39 (.agg #[(.int .i64 0), (.int .i64 0), (.int .i64 0)]) 24 rfl Try.underlying34 info39 rfl (by decide) (by omega) (.slice Ao41 x9_3.length co41) x9_3 (⟨(⟨(rd_T36 t298 x10_3).f0.f0, (rd_T36 t298 x10_3).f0.f1⟩ : S24), t313⟩ : S39) [.int .i64 ((rd_T36 t298 x10_3).f0.f0), .int .i64 ((rd_T36 t298 x10_3).f0.f1), .int .i64 t313] (fun _ => True) (fun _ => False) rfl rfl ?aP (fun _ hk => hk.elim) ?aF ?aO ?aB ?aS ?aL ?_
                 (case aP => exact k39_mkM _ _ _ (⟨(⟨(rd_T36 t298 x10_3).f0.f0, (rd_T36 t298 x10_3).f0.f1⟩ : S24), t313⟩ : S39))
                 (case aB => exact (by repeat (first | (with_reducible first | exact HB.out | apply below_alloc | apply pw_below_drewN | apply below_drew1 | refine below_set ?_ GE289.out) | exact HB.out)))
                 (case aF => exact (fun _ _ => trivial))
                 (case aO => exact (by (with_reducible repeat (first | apply Kd.R_alloc | apply Kd.R_drewN | apply Kd.R_drew)); exact HO_9.out))
                 (case aS => exact (below_size (by repeat (first | (with_reducible first | exact HB.out | apply below_alloc | apply pw_below_drewN | apply below_drew1 | refine below_set ?_ GE289.out) | exact HB.out))))
                 (case aL => have := LMc38.out; omega)
                 intro v315 w43 ho hb hg hat
                 rw [← Ny314.out] at ho
                 have n0_ := Aside0.mk (Kd.R_over' (by (with_reducible repeat (first | apply Kd.R_alloc | apply Kd.R_drewN | apply Kd.R_drew)); exact HO_7.out) (Kd.R_typed (by (with_reducible repeat (first | apply Kd.R_alloc | apply Kd.R_drewN | apply Kd.R_drew)); exact HO_9.out)) (by decide) hg)
                 have n1_ := Aside0.mk (blk_grown (g := gb289) (o := .cells #[.int .i64 a1_0, .int .i64 a1_1] 24 (0, 0)) (by (with_reducible repeat (first | refine blk_drewN ?_ _ | refine blk_drew ?_ | refine blk_alloc ?_ _)); exact BK289.out) hg (Kd.R_ne HO_9.out BK289.out (by decide)))
                 have n2_ := Aside0.mk (hb)
                 have n3_ := Aside0.mk (ho)
                 clear HO_7
                 clear BK289
                 clear HB
                 clear HO_9
                 have HO_7 := n0_
                 have BK289 := n1_
                 have HB := n2_
                 have HO316 := n3_
                 clear n0_ n1_ n2_ n3_
                 clear ho hb hg hat
                 refine hK.out _ _ ?_
                 clear hK K
                 refine norm_ (a' := ?_) ?_ ?_
                 rotate_left
                 ·show Act.put _ (some 93) _ = _
                  simp only [Act.put, List.setIfInBounds_toArray, List.set_cons_zero, List.set_cons_succ, i64_w, i32_w]
                  rfl
                 refine pure_ (i := 16) (N := some 9) (v := ?_) (a' := ?_) (bl 17 17) rfl rfl (any_of HT_.out (by kernel_rfl)) (fun _ _ _ h => h) (Or.inl ⟨by rfl, ?_⟩) ?_ ?_
                 rotate_left
                 ·intro w'
                  go_simp
                  with_reducible rfl
                 rotate_left
                 ·simp only [Act.put, List.setIfInBounds_toArray, List.set_cons_zero, List.set_cons_succ, i64_w, i32_w]
                  rfl
                 refine done_ (done_of HT_.out (by kernel_rfl)) ?_
                 try go_wp2
                 go_roundg k3
                 case measure => have := HJ3.out; have := HJ14.out; have := HK3.out; omega
                 case rel => exact ⟨(y314), (wrap64 (x10_3 + 1)), (by first | rfl | (simp; done) | (simp [*]; done)), H', ⟨by have := HJ3.out; have := HJ14.out; have := HK3.out; omega⟩, ⟨by (with_reducible repeat (first | apply Kd.R_alloc | apply Kd.R_drewN | apply Kd.R_drew)); exact HO_7.out⟩, ⟨by (with_reducible repeat (first | apply Kd.R_alloc | apply Kd.R_drewN | apply Kd.R_drew)); exact HO316.out⟩, ⟨by (with_reducible repeat (first | refine blk_drewN ?_ _ | refine blk_drew ?_ | refine blk_alloc ?_ _)); exact BK289.out⟩, ⟨by repeat (first | (with_reducible first | exact HB.out | apply below_alloc | apply pw_below_drewN | apply below_drew1 | refine below_set ?_ GE289.out) | exact HB.out)⟩⟩
                ·rw [if_neg c38] at H
                 exact absurd H (by simp)
               ·rw [if_neg c36] at H
                have c36b0 : (((rd_T36 t298 x10_3).f0.f0) == 2) = false := beq_eq_false_iff_ne.mpr c36
                have c36b1 : (((rd_T36 t298 x10_3).f0.f0) != 2) = true := bne_iff_ne.mpr c36
                obtain rfl := Option.some.inj H
                obtain ⟨Ao44, co44, eo44⟩ := Kd.R_slice HO_7.out
                subst eo44
                have p303 : 0 ≤ (x10_3 : Int) := of_decide_eq_true (by first | (with_reducible assumption) | assumption)
                have q303 : x10_3 < (t298.length : Int) := of_decide_eq_true (by first | (with_reducible assumption) | assumption)
                obtain ⟨ad303, e303, hx303_0, hx303_1, hx303_2, hx303_3⟩ := at_T36 (Kd.R_reads' HO_7.out).2.2 x10_3 p303 q303
                cases e303
                replace p303 := eq_true p303
                replace q303 := eq_true q303
                have p310 : 0 ≤ (x10_3 : Int) := of_decide_eq_true (by first | (with_reducible assumption) | assumption)
                have q310 : x10_3 < (t298.length : Int) := of_decide_eq_true (by first | (with_reducible assumption) | assumption)
                obtain ⟨ad310, e310, hx310_0, hx310_1, hx310_2, hx310_3⟩ := at_T36 (Kd.R_reads' HO_7.out).2.2 x10_3 p310 q310
                obtain rfl : ad303 = ad310 := (by injection e310)
                replace p310 := eq_true p310
                replace q310 := eq_true q310
                go_wp2
                go_ret
                exact ⟨by first | rfl | (simp [errW_none, errW_some] <;> rfl) | (simp [*, errW_none, errW_some] <;> rfl), by repeat (first | (with_reducible first | exact HB.out | apply below_alloc | apply pw_below_drewN | apply below_drew1 | refine below_set ?_ GE289.out) | exact HB.out)⟩
             ·rw [if_neg c27] at H
              exact absurd H (by simp)
            ·rw [if_neg c26] at H
             have c26b0 : decide (x10_3 < (t298.length : Int)) = false := decide_eq_false c26
             clear c26
             have H' := Aside0.mk H
             clear H
             obtain ⟨Ao45, co45, eo45⟩ := Kd.R_slice HO_7.out
             subst eo45
             go_wp2
             go_loopg [11] k3 (fun kq v11 w' => ∃ (x11_4 : Int), v11 = .int .i64 x11_4 ∧ Aside0 (quernlaw13_MovesDo.l1 kq l0 t298 x9_3 x11_4 a1_0 a1_1 = some r) ∧ Aside0 (kq ≤ k3) ∧ Aside0 (Kd.R k36 36 w' w.heap.size (fun _ => True) (.slice Ao45 t298.length co45) t298) ∧ Aside0 (Kd.R k39 39 w' w.heap.size (fun _ => True) u9 x9_3) ∧ Aside0 (w'.heap[gb289]? = some (.cells #[.int .i64 a1_0, .int .i64 a1_1] 24 (0, 0))) ∧ Aside0 (Below w.heap.size w w'))
             case atStart => exact ⟨(0), (by first | rfl | (simp; done) | (simp [*]; done)), H', ⟨Nat.le_refl _⟩, ⟨by (with_reducible repeat (first | apply Kd.R_alloc | apply Kd.R_drewN | apply Kd.R_drew)); exact HO_7.out⟩, ⟨by (with_reducible repeat (first | apply Kd.R_alloc | apply Kd.R_drewN | apply Kd.R_drew)); exact HO_9.out⟩, ⟨by (with_reducible repeat (first | refine blk_drewN ?_ _ | refine blk_drew ?_ | refine blk_alloc ?_ _)); exact BK289.out⟩, ⟨by repeat (first | (with_reducible first | exact HB.out | apply below_alloc | apply pw_below_drewN | apply below_drew1 | refine below_set ?_ GE289.out) | exact HB.out)⟩⟩
             case round =>
              clear H'
              try clear c1
              try clear q1
              try clear c2
              try clear p2
              try clear c3
              try clear p3
              try clear q3
              try clear hx3
              try clear p6
              try clear c10
              try clear c10b0
              try clear c10b1
              try clear c11
              try clear c11b0
              try clear c11b1
              try clear c14
              try clear c15
              try clear q18
              try clear c23
              try clear c23b0
              try clear c23b1
              try clear c25
              try clear c26
              try clear c26b0
              try clear c27
              try clear c27b0
              try clear c28
              try clear c28b0
              try clear c28b1
              try clear c30
              try clear p30
              try clear q30
              try clear hx30
              try clear p31
              try clear q31
              try clear hx31
              try clear c36
              try clear c36b0
              try clear c36b1
              try clear c38
              try clear hcz21_0
              try clear hcz21_1
              try clear hfz21_0
              try clear hfz21_1
              try clear hx303_0
              try clear hx303_1
              try clear hx303_2
              try clear hx303_3
              try clear hx304_0
              try clear hx304_1
              try clear hx304_2
              try clear hx304_3
              try clear hx305_0
              try clear hx305_1
              try clear hx305_2
              try clear hx305_3
              try clear hx310_0
              try clear hx310_1
              try clear hx310_2
              try clear hx310_3
              try clear hx311_0
              try clear hx311_1
              try clear hx311_2
              try clear hx311_3
              try clear hx312_0
              try clear hx312_1
              try clear hx312_2
              try clear hx312_3
              try clear p2
              try clear p303
              try clear p304
              try clear p305
              try clear p310
              try clear p311
              try clear p312
              try clear p6
              try clear q1
              try clear q18
              try clear q303
              try clear q304
              try clear q305
              try clear q310
              try clear q311
              try clear q312
              obtain ⟨x11_4, rfl, HA, HK4, HO_7, HO_9, BK289, HB⟩ := hrel
              cases gk with
              | zero => exact absurd HA.out (by simp [quernlaw13_MovesDo.l1])
              | succ k4 =>
               have H := HA.out
               clear HA
               simp only [quernlaw13_MovesDo.l1] at H
               by_cases c46 : x11_4 < (l0.length : Int)
               ·rw [if_pos c46] at H
                have c46b0 : decide (x11_4 < (l0.length : Int)) = true := decide_eq_true c46
                clear c46
                by_cases c47 : 0 ≤ x11_4
                ·rw [if_pos c47] at H
                 have c47b0 : decide (0 ≤ x11_4) = true := decide_eq_true c47
                 clear c47
                 replace H := Option.bind_eq_some_iff.mp H
                 obtain ⟨t318, A480, H⟩ := H
                 replace H : ((quernlaw13_held.f k4 ([] : List (S39)) ((rd_T36 l0 x11_4).f1.f0) ((rd_T36 l0 x11_4).f1.f1)).bind fun t320 => (if t318 = t320 then (quernlaw13_MovesDo.l1 k4 l0 t298 x9_3 (wrap64 (x11_4 + 1)) a1_0 a1_1) else (some false))) = some r := H
                 have A48 := Aside0.mk A480
                 clear A480
                 replace H := Option.bind_eq_some_iff.mp H
                 obtain ⟨t320, A490, H⟩ := H
                 replace H : (if t318 = t320 then (quernlaw13_MovesDo.l1 k4 l0 t298 x9_3 (wrap64 (x11_4 + 1)) a1_0 a1_1) else (some false)) = some r := H
                 have A49 := Aside0.mk A490
                 clear A490
                 by_cases c50 : t318 = t320
                 ·rw [if_pos c50] at H
                  have c50b0 : (t318 == t320) = true := beq_iff_eq.mpr c50
                  have c50b1 : (t318 != t320) = false := bne_eq_false_iff_eq.mpr c50
                  clear c50
                  have H' := Aside0.mk H
                  clear H
                  try go_wp2
                  have n0_ := Aside0.mk (Kd.R_drew HO_7.out)
                  have n1_ := Aside0.mk (Kd.R_drew HO_9.out)
                  have n2_ := Aside0.mk (blk_drew BK289.out)
                  have n3_ := Aside0.mk (below_drew1 HB.out)
                  clear HO_7
                  clear HO_9
                  clear BK289
                  clear HB
                  have HO_7 := n0_
                  have HO_9 := n1_
                  have BK289 := n2_
                  have HB := n3_
                  clear n0_ n1_ n2_ n3_
                  have p317 : 0 ≤ (x11_4 : Int) := of_decide_eq_true (by first | (with_reducible assumption) | assumption)
                  have q317 : x11_4 < (l0.length : Int) := of_decide_eq_true (by first | (with_reducible assumption) | assumption)
                  obtain ⟨ad317, e317, hx317_0, hx317_1, hx317_2, hx317_3⟩ := at_T36 HR0.out x11_4 p317 q317
                  have hw317_3 := hx317_3
                  have hw317_2 := hx317_2
                  have hw317_1 := hx317_1
                  have hw317_0 := hx317_0
                  cases e317
                  replace hx317_0 := cellA HB hx317_0
                  replace hx317_1 := cellA HB hx317_1
                  replace hx317_2 := cellA HB hx317_2
                  replace hx317_3 := cellA HB hx317_3
                  replace p317 := eq_true p317
                  replace q317 := eq_true q317
                  have p319 : 0 ≤ (x11_4 : Int) := of_decide_eq_true (by first | (with_reducible assumption) | assumption)
                  have q319 : x11_4 < (l0.length : Int) := of_decide_eq_true (by first | (with_reducible assumption) | assumption)
                  obtain ⟨ad319, e319, hx319_0, hx319_1, hx319_2, hx319_3⟩ := at_T36 HR0.out x11_4 p319 q319
                  have hw319_3 := hx319_3
                  have hw319_2 := hx319_2
                  have hw319_1 := hx319_1
                  have hw319_0 := hx319_0
                  obtain rfl : ad317 = ad319 := (by injection e319)
                  replace hx319_0 := cellA HB hx319_0
                  replace hx319_1 := cellA HB hx319_1
                  replace hx319_2 := cellA HB hx319_2
                  replace hx319_3 := cellA HB hx319_3
                  replace p319 := eq_true p319
                  replace q319 := eq_true q319
                  obtain ⟨Ao52, co52, eo52⟩ := Kd.R_slice HO_9.out
                  (first | subst eo52 | (injection eo52 with f1_ f2_ f3_; have f4_ := f1_.symm; have f5_ := f3_.symm; clear f1_ f2_ f3_; subst f4_; subst f5_))
                  refine start_ (n := 14) (S := fun w' => w'.cell? (ad317.add ((x11_4).toNat * 4)) = some (.int .i64 ((rd_T36 l0 x11_4).f0.f0)) ∧ w'.cell? ⟨(ad317.add ((x11_4).toNat * 4)).block, (ad317.add ((x11_4).toNat * 4)).off + 1, none⟩ = some (.int .i64 ((rd_T36 l0 x11_4).f0.f1)) ∧ w'.cell? ⟨(ad317.add ((x11_4).toNat * 4)).block, (ad317.add ((x11_4).toNat * 4)).off + 2, none⟩ = some (.int .i64 ((rd_T36 l0 x11_4).f1.f0)) ∧ w'.cell? ⟨(ad317.add ((x11_4).toNat * 4)).block, (ad317.add ((x11_4).toNat * 4)).off + 3, none⟩ = some (.int .i64 ((rd_T36 l0 x11_4).f1.f1)) ∧ w'.cell? (ad317.add ((x11_4).toNat * 4)) = some (.int .i64 ((rd_T36 l0 x11_4).f0.f0)) ∧ w'.cell? ⟨(ad317.add ((x11_4).toNat * 4)).block, (ad317.add ((x11_4).toNat * 4)).off + 1, none⟩ = some (.int .i64 ((rd_T36 l0 x11_4).f0.f1)) ∧ w'.cell? ⟨(ad317.add ((x11_4).toNat * 4)).block, (ad317.add ((x11_4).toNat * 4)).off + 2, none⟩ = some (.int .i64 ((rd_T36 l0 x11_4).f1.f0)) ∧ w'.cell? ⟨(ad317.add ((x11_4).toNat * 4)).block, (ad317.add ((x11_4).toNat * 4)).off + 3, none⟩ = some (.int .i64 ((rd_T36 l0 x11_4).f1.f1))) (ds := []) (bl 0 14) (by kernel_rfl) rfl rfl ⟨(cellA HB hw317_0), (cellA HB hw317_1), (cellA HB hw317_2), (cellA HB hw317_3), (cellA HB hw319_0), (cellA HB hw319_1), (cellA HB hw319_2), (cellA HB hw319_3)⟩ (fun hHeld => ?_); refine with_tabW quernlaw13_MovesDo.tab20 quernlaw13_MovesDo.bits20 (fun HT_ HW_ => ?_)
                  generalize wr.drew = w51 at HO_7 HO_9 BK289 HB hx317_0 hx317_1 hx317_2 hx317_3 hx319_0 hx319_1 hx319_2 hx319_3 hHeld ⊢
                  refine pure_ (i := 0) (N := some 100) (v := ?_) (a' := ?_) (bl 1 14) rfl rfl (any_of HT_.out (by kernel_rfl)) (fun _ _ _ h => h) (Or.inl ⟨by rfl, ?_⟩) ?_ ?_
                  rotate_left
                  ·intro w'
                   go_simp
                   with_reducible rfl
                  rotate_left
                  ·simp only [Act.put, List.setIfInBounds_toArray, List.set_cons_zero, List.set_cons_succ, i64_w, i32_w]
                   rfl
                  refine pure_ (i := 1) (N := some 101) (v := ?_) (a' := ?_) (bl 2 14) rfl rfl (any_of HT_.out (by kernel_rfl)) (fun _ _ _ h => h) (Or.inl ⟨by rfl, ?_⟩) ?_ ?_
                  rotate_left
                  ·intro w'
                   go_simp
                   with_reducible rfl
                  rotate_left
                  ·simp only [Act.put, List.setIfInBounds_toArray, List.set_cons_zero, List.set_cons_succ, i64_w, i32_w]
                   rfl
                  refine pure_ (i := 2) (N := some 102) (v := ?_) (a' := ?_) (bl 3 14) rfl rfl (any_of HT_.out (by kernel_rfl)) (fun _ _ _ h => h) (Or.inl ⟨by rfl, ?_⟩) ?_ ?_
                  rotate_left
                  ·intro w'
                   go_simp
                   with_reducible rfl
                  rotate_left
                  ·simp only [Act.put, List.setIfInBounds_toArray, List.set_cons_zero, List.set_cons_succ, i64_w, i32_w]
                   rfl
                  refine pure_ (i := 3) (N := some 103) (v := ?_) (a' := ?_) (bl 4 14) rfl rfl (any_of HT_.out (by kernel_rfl)) (fun _ _ _ h => h) (Or.inl ⟨by rfl, ?_⟩) ?_ ?_
                  rotate_left
                  ·intro w'
                   go_simp
                   with_reducible rfl
                  rotate_left
                  ·simp only [Act.put, List.setIfInBounds_toArray, List.set_cons_zero, List.set_cons_succ, i64_w, i32_w]
                   rfl
                  refine pure_ (i := 4) (N := some 104) (v := ?_) (a' := ?_) (bl 5 14) rfl rfl (any_of HT_.out (by kernel_rfl)) (fun _ _ _ h => h) (Or.inl ⟨by rfl, ?_⟩) ?_ ?_
                  rotate_left
                  ·intro w'
                   go_simp
                   with_reducible rfl
                  rotate_left
                  ·simp only [Act.put, List.setIfInBounds_toArray, List.set_cons_zero, List.set_cons_succ, i64_w, i32_w]
                   rfl
                  refine pure_ (i := 7) (N := some 107) (v := ?_) (a' := ?_) #[true, true, true, true, true, false, false, true, false, false, false, false, false, false] rfl rfl (any_of HT_.out (by kernel_rfl)) (fun _ _ _ h => h) (Or.inl ⟨by rfl, ?_⟩) ?_ ?_
                  rotate_left
                  ·intro w'
                   go_simp
                   with_reducible rfl
                  rotate_left
                  ·simp only [Act.put, List.setIfInBounds_toArray, List.set_cons_zero, List.set_cons_succ, i64_w, i32_w]
                   rfl
                  refine pure_ (i := 8) (N := some 108) (v := ?_) (a' := ?_) #[true, true, true, true, true, false, false, true, true, false, false, false, false, false] rfl rfl (any_of HT_.out (by kernel_rfl)) (fun _ _ _ h => h) (Or.inl ⟨by rfl, ?_⟩) ?_ ?_
                  rotate_left
                  ·intro w'
                   go_simp
                   with_reducible rfl
                  rotate_left
                  ·simp only [Act.put, List.setIfInBounds_toArray, List.set_cons_zero, List.set_cons_succ, i64_w, i32_w]
                   rfl
                  refine pure_ (i := 9) (N := some 109) (v := ?_) (a' := ?_) #[true, true, true, true, true, false, false, true, true, true, false, false, false, false] rfl rfl (any_of HT_.out (by kernel_rfl)) (fun _ _ _ h => h) (Or.inl ⟨by rfl, ?_⟩) ?_ ?_
                  rotate_left
                  ·intro w'
                   go_simp
                   with_reducible rfl
                  rotate_left
                  ·simp only [Act.put, List.setIfInBounds_toArray, List.set_cons_zero, List.set_cons_succ, i64_w, i32_w]
                   rfl
                  refine pure_ (i := 10) (N := some 110) (v := ?_) (a' := ?_) #[true, true, true, true, true, false, false, true, true, true, true, false, false, false] rfl rfl (any_of HT_.out (by kernel_rfl)) (fun _ _ _ h => h) (Or.inl ⟨by rfl, ?_⟩) ?_ ?_
                  rotate_left
                  ·intro w'
                   go_simp
                   with_reducible rfl
                  rotate_left
                  ·simp only [Act.put, List.setIfInBounds_toArray, List.set_cons_zero, List.set_cons_succ, i64_w, i32_w]
                   rfl
                  refine take_ (i := 5) (N := some 105) (v := ?_) (a' := ?_) #[true, true, true, true, true, true, false, true, true, true, true, false, false, false] rfl rfl (take_ofW HT_.out HW_.out (by kernel_rfl)) (fun _ _ _ h => h) (Or.inl ⟨by rfl, ?_⟩) hHeld ?_ ?_
                  rotate_left
                  ·rintro w' ⟨s0, s1, s2, s3, s4, s5, s6, s7⟩
                   go_simp
                   with_reducible rfl
                  rotate_left
                  ·simp only [Act.put, List.setIfInBounds_toArray, List.set_cons_zero, List.set_cons_succ, i64_w, i32_w]
                   rfl
                  refine take_ (i := 11) (N := some 111) (v := ?_) (a' := ?_) #[true, true, true, true, true, true, false, true, true, true, true, true, false, false] rfl rfl (take_ofW HT_.out HW_.out (by kernel_rfl)) (fun _ _ _ h => h) (Or.inl ⟨by rfl, ?_⟩) hHeld ?_ ?_
                  rotate_left
                  ·rintro w' ⟨s0, s1, s2, s3, s4, s5, s6, s7⟩
                   go_simp
                   with_reducible rfl
                  rotate_left
                  ·simp only [Act.put, List.setIfInBounds_toArray, List.set_cons_zero, List.set_cons_succ, i64_w, i32_w]
                   rfl
                  refine one_ (i := 6) (N := some 106) (bl 12 14) rfl rfl (one_of HT_.out (by kernel_rfl)) (by decide) (fun K hK => ?_)
                  refine goes_ Try.func15 (by kernel_rfl) rfl #[.slice Ao52 x9_3.length co52, .agg #[.int .i64 ((rd_T36 l0 x11_4).f0.f0), .int .i64 ((rd_T36 l0 x11_4).f0.f1)]] (by rfl) rfl rfl (by (try simp only [List.map_toArray, List.map_cons, List.map_nil]); first | done | rfl | (simp only [List.length_drop, List.length_take]; rfl)) ?_
                  with_reducible refine (quernlaw13_held.calls k4 _ _ x9_3 ((rd_T36 l0 x11_4).f0.f0) ((rd_T36 l0 x11_4).f0.f1) t318 _ ?side1 ?side2 A48.out).mono ?_
                  (case side1 => repeat (first | exact (Kd.R_reads' HO_9.out).2.2 | (with_reducible refine Kd.C_alloc ?_ _) | (with_reducible refine Kd.C_drewN ?_ _) | (with_reducible refine Kd.C_drew ?_)))
                  (case side2 => exact (Kd.R_reads' HO_9.out).2.1)
                  rintro e w53 ⟨rfl, hb⟩
                  refine ⟨_, rfl, ?_⟩
                  have n0_ := Aside0.mk (Kd.R_below (by (with_reducible repeat (first | apply Kd.R_alloc | apply Kd.R_drewN | apply Kd.R_drew)); exact HO_7.out) hb)
                  have n1_ := Aside0.mk (Kd.R_below (by (with_reducible repeat (first | apply Kd.R_alloc | apply Kd.R_drewN | apply Kd.R_drew)); exact HO_9.out) hb)
                  have n2_ := Aside0.mk (blk_below (g := gb289) (o := .cells #[.int .i64 a1_0, .int .i64 a1_1] 24 (0, 0)) (by (with_reducible repeat (first | refine blk_drewN ?_ _ | refine blk_drew ?_ | refine blk_alloc ?_ _)); exact BK289.out) hb)
                  have n3_ := Aside0.mk (below_step (by repeat (first | (with_reducible first | exact HB.out | apply below_alloc | apply pw_below_drewN | apply below_drew1 | refine below_set ?_ GE289.out) | exact HB.out)) hb)
                  clear HO_7
                  clear HO_9
                  clear BK289
                  clear HB
                  have HO_7 := n0_
                  have HO_9 := n1_
                  have BK289 := n2_
                  have HB := n3_
                  clear n0_ n1_ n2_ n3_
                  (try clear hb)
                  (try clear hb2)
                  (try clear hk)
                  (try clear hi)
                  refine hK.out _ _ ⟨(cellA HB hw317_0), (cellA HB hw317_1), (cellA HB hw317_2), (cellA HB hw317_3), (cellA HB hw319_0), (cellA HB hw319_1), (cellA HB hw319_2), (cellA HB hw319_3)⟩ (fun hHeld => ?_)
                  clear hK K
                  refine norm_ (a' := ?_) ?_ ?_
                  rotate_left
                  ·show Act.put _ (some 106) _ = _
                   simp only [Act.put, List.setIfInBounds_toArray, List.set_cons_zero, List.set_cons_succ, i64_w, i32_w]
                   rfl
                  refine one_ (i := 12) (N := some 112) (bl 13 14) rfl rfl (one_of HT_.out (by kernel_rfl)) (by decide) (fun K hK => ?_)
                  refine goes_ Try.func15 (by kernel_rfl) rfl #[.slice none 0 0, .agg #[.int .i64 ((rd_T36 l0 x11_4).f1.f0), .int .i64 ((rd_T36 l0 x11_4).f1.f1)]] (by rfl) rfl rfl (by (try simp only [List.map_toArray, List.map_cons, List.map_nil]); first | done | rfl | (simp only [List.length_drop, List.length_take]; rfl)) ?_
                  refine (quernlaw13_held.calls k4 _ _ ([] : List (S39)) ((rd_T36 l0 x11_4).f1.f0) ((rd_T36 l0 x11_4).f1.f1) t320 _ ?side1 ?side2 A49.out).mono ?_
                  (case side1 => exact Kd.C_nil _ _)
                  (case side2 => exact Nat.le_refl _)
                  rintro e w54 ⟨rfl, hb⟩
                  refine ⟨_, rfl, ?_⟩
                  have n0_ := Aside0.mk (Kd.R_below (by (with_reducible repeat (first | apply Kd.R_alloc | apply Kd.R_drewN | apply Kd.R_drew)); exact HO_7.out) hb)
                  have n1_ := Aside0.mk (Kd.R_below (by (with_reducible repeat (first | apply Kd.R_alloc | apply Kd.R_drewN | apply Kd.R_drew)); exact HO_9.out) hb)
                  have n2_ := Aside0.mk (blk_below (g := gb289) (o := .cells #[.int .i64 a1_0, .int .i64 a1_1] 24 (0, 0)) (by (with_reducible repeat (first | refine blk_drewN ?_ _ | refine blk_drew ?_ | refine blk_alloc ?_ _)); exact BK289.out) hb)
                  have n3_ := Aside0.mk (below_step (by repeat (first | (with_reducible first | exact HB.out | apply below_alloc | apply pw_below_drewN | apply below_drew1 | refine below_set ?_ GE289.out) | exact HB.out)) hb)
                  clear HO_7
                  clear HO_9
                  clear BK289
                  clear HB
                  have HO_7 := n0_
                  have HO_9 := n1_
                  have BK289 := n2_
                  have HB := n3_
                  clear n0_ n1_ n2_ n3_
                  (try clear hb)
                  (try clear hb2)
                  (try clear hk)
                  (try clear hi)
                  refine hK.out _ _ ⟨(cellA HB hw317_0), (cellA HB hw317_1), (cellA HB hw317_2), (cellA HB hw317_3), (cellA HB hw319_0), (cellA HB hw319_1), (cellA HB hw319_2), (cellA HB hw319_3)⟩ (fun hHeld => ?_)
                  clear hK K
                  refine norm_ (a' := ?_) ?_ ?_
                  rotate_left
                  ·show Act.put _ (some 112) _ = _
                   simp only [Act.put, List.setIfInBounds_toArray, List.set_cons_zero, List.set_cons_succ, i64_w, i32_w]
                   rfl
                  refine pure_ (i := 13) (N := some 113) (v := ?_) (a' := ?_) (bl 14 14) rfl rfl (any_of HT_.out (by kernel_rfl)) (fun _ _ _ h => h) (Or.inl ⟨by rfl, ?_⟩) ?_ ?_
                  rotate_left
                  ·intro w'
                   go_simp
                   with_reducible rfl
                  rotate_left
                  ·simp only [Act.put, List.setIfInBounds_toArray, List.set_cons_zero, List.set_cons_succ, i64_w, i32_w]
                   rfl
                  refine done_ (done_of HT_.out (by kernel_rfl)) ?_
                  try go_wp2
                  go_roundg k4
                  case measure => have := HJ3.out; have := HJ14.out; have := HK3.out; have := HK4.out; omega
                  case rel => exact ⟨(wrap64 (x11_4 + 1)), (by first | rfl | (simp; done) | (simp [*]; done)), H', ⟨by have := HJ3.out; have := HJ14.out; have := HK3.out; have := HK4.out; omega⟩, ⟨by (with_reducible repeat (first | apply Kd.R_alloc | apply Kd.R_drewN | apply Kd.R_drew)); exact HO_7.out⟩, ⟨by (with_reducible repeat (first | apply Kd.R_alloc | apply Kd.R_drewN | apply Kd.R_drew)); exact HO_9.out⟩, ⟨by (with_reducible repeat (first | refine blk_drewN ?_ _ | refine blk_drew ?_ | refine blk_alloc ?_ _)); exact BK289.out⟩, ⟨by repeat (first | (with_reducible first | exact HB.out | apply below_alloc | apply pw_below_drewN | apply below_drew1 | refine below_set ?_ GE289.out) | exact HB.out)⟩⟩
                 ·rw [if_neg c50] at H
                  have c50b0 : (t318 == t320) = false := beq_eq_false_iff_ne.mpr c50
                  have c50b1 : (t318 != t320) = true := bne_iff_ne.mpr c50
                  obtain rfl := Option.some.inj H
                  try go_wp2
                  have n0_ := Aside0.mk (Kd.R_drew HO_7.out)
                  have n1_ := Aside0.mk (Kd.R_drew HO_9.out)
                  have n2_ := Aside0.mk (blk_drew BK289.out)
                  have n3_ := Aside0.mk (below_drew1 HB.out)
                  clear HO_7
                  clear HO_9
                  clear BK289
                  clear HB
                  have HO_7 := n0_
                  have HO_9 := n1_
                  have BK289 := n2_
                  have HB := n3_
                  clear n0_ n1_ n2_ n3_
                  have p317 : 0 ≤ (x11_4 : Int) := of_decide_eq_true (by first | (with_reducible assumption) | assumption)
                  have q317 : x11_4 < (l0.length : Int) := of_decide_eq_true (by first | (with_reducible assumption) | assumption)
                  obtain ⟨ad317, e317, hx317_0, hx317_1, hx317_2, hx317_3⟩ := at_T36 HR0.out x11_4 p317 q317
                  have hw317_3 := hx317_3
                  have hw317_2 := hx317_2
                  have hw317_1 := hx317_1
                  have hw317_0 := hx317_0
                  cases e317
                  replace hx317_0 := cellA HB hx317_0
                  replace hx317_1 := cellA HB hx317_1
                  replace hx317_2 := cellA HB hx317_2
                  replace hx317_3 := cellA HB hx317_3
                  replace p317 := eq_true p317
                  replace q317 := eq_true q317
                  have p319 : 0 ≤ (x11_4 : Int) := of_decide_eq_true (by first | (with_reducible assumption) | assumption)
                  have q319 : x11_4 < (l0.length : Int) := of_decide_eq_true (by first | (with_reducible assumption) | assumption)
                  obtain ⟨ad319, e319, hx319_0, hx319_1, hx319_2, hx319_3⟩ := at_T36 HR0.out x11_4 p319 q319
                  have hw319_3 := hx319_3
                  have hw319_2 := hx319_2
                  have hw319_1 := hx319_1
                  have hw319_0 := hx319_0
                  obtain rfl : ad317 = ad319 := (by injection e319)
                  replace hx319_0 := cellA HB hx319_0
                  replace hx319_1 := cellA HB hx319_1
                  replace hx319_2 := cellA HB hx319_2
                  replace hx319_3 := cellA HB hx319_3
                  replace p319 := eq_true p319
                  replace q319 := eq_true q319
                  obtain ⟨Ao56, co56, eo56⟩ := Kd.R_slice HO_9.out
                  (first | subst eo56 | (injection eo56 with f1_ f2_ f3_; have f4_ := f1_.symm; have f5_ := f3_.symm; clear f1_ f2_ f3_; subst f4_; subst f5_))
                  refine start_ (n := 14) (S := fun w' => w'.cell? (ad317.add ((x11_4).toNat * 4)) = some (.int .i64 ((rd_T36 l0 x11_4).f0.f0)) ∧ w'.cell? ⟨(ad317.add ((x11_4).toNat * 4)).block, (ad317.add ((x11_4).toNat * 4)).off + 1, none⟩ = some (.int .i64 ((rd_T36 l0 x11_4).f0.f1)) ∧ w'.cell? ⟨(ad317.add ((x11_4).toNat * 4)).block, (ad317.add ((x11_4).toNat * 4)).off + 2, none⟩ = some (.int .i64 ((rd_T36 l0 x11_4).f1.f0)) ∧ w'.cell? ⟨(ad317.add ((x11_4).toNat * 4)).block, (ad317.add ((x11_4).toNat * 4)).off + 3, none⟩ = some (.int .i64 ((rd_T36 l0 x11_4).f1.f1)) ∧ w'.cell? (ad317.add ((x11_4).toNat * 4)) = some (.int .i64 ((rd_T36 l0 x11_4).f0.f0)) ∧ w'.cell? ⟨(ad317.add ((x11_4).toNat * 4)).block, (ad317.add ((x11_4).toNat * 4)).off + 1, none⟩ = some (.int .i64 ((rd_T36 l0 x11_4).f0.f1)) ∧ w'.cell? ⟨(ad317.add ((x11_4).toNat * 4)).block, (ad317.add ((x11_4).toNat * 4)).off + 2, none⟩ = some (.int .i64 ((rd_T36 l0 x11_4).f1.f0)) ∧ w'.cell? ⟨(ad317.add ((x11_4).toNat * 4)).block, (ad317.add ((x11_4).toNat * 4)).off + 3, none⟩ = some (.int .i64 ((rd_T36 l0 x11_4).f1.f1))) (ds := []) (bl 0 14) (by kernel_rfl) rfl rfl ⟨(cellA HB hw317_0), (cellA HB hw317_1), (cellA HB hw317_2), (cellA HB hw317_3), (cellA HB hw319_0), (cellA HB hw319_1), (cellA HB hw319_2), (cellA HB hw319_3)⟩ (fun hHeld => ?_); refine with_tabW quernlaw13_MovesDo.tab20 quernlaw13_MovesDo.bits20 (fun HT_ HW_ => ?_)
                  generalize wr.drew = w55 at HO_7 HO_9 BK289 HB hx317_0 hx317_1 hx317_2 hx317_3 hx319_0 hx319_1 hx319_2 hx319_3 hHeld ⊢
                  refine pure_ (i := 0) (N := some 100) (v := ?_) (a' := ?_) (bl 1 14) rfl rfl (any_of HT_.out (by kernel_rfl)) (fun _ _ _ h => h) (Or.inl ⟨by rfl, ?_⟩) ?_ ?_
                  rotate_left
                  ·intro w'
                   go_simp
                   with_reducible rfl
                  rotate_left
                  ·simp only [Act.put, List.setIfInBounds_toArray, List.set_cons_zero, List.set_cons_succ, i64_w, i32_w]
                   rfl
                  refine pure_ (i := 1) (N := some 101) (v := ?_) (a' := ?_) (bl 2 14) rfl rfl (any_of HT_.out (by kernel_rfl)) (fun _ _ _ h => h) (Or.inl ⟨by rfl, ?_⟩) ?_ ?_
                  rotate_left
                  ·intro w'
                   go_simp
                   with_reducible rfl
                  rotate_left
                  ·simp only [Act.put, List.setIfInBounds_toArray, List.set_cons_zero, List.set_cons_succ, i64_w, i32_w]
                   rfl
                  refine pure_ (i := 2) (N := some 102) (v := ?_) (a' := ?_) (bl 3 14) rfl rfl (any_of HT_.out (by kernel_rfl)) (fun _ _ _ h => h) (Or.inl ⟨by rfl, ?_⟩) ?_ ?_
                  rotate_left
                  ·intro w'
                   go_simp
                   with_reducible rfl
                  rotate_left
                  ·simp only [Act.put, List.setIfInBounds_toArray, List.set_cons_zero, List.set_cons_succ, i64_w, i32_w]
                   rfl
                  refine pure_ (i := 3) (N := some 103) (v := ?_) (a' := ?_) (bl 4 14) rfl rfl (any_of HT_.out (by kernel_rfl)) (fun _ _ _ h => h) (Or.inl ⟨by rfl, ?_⟩) ?_ ?_
                  rotate_left
                  ·intro w'
                   go_simp
                   with_reducible rfl
                  rotate_left
                  ·simp only [Act.put, List.setIfInBounds_toArray, List.set_cons_zero, List.set_cons_succ, i64_w, i32_w]
                   rfl
                  refine pure_ (i := 4) (N := some 104) (v := ?_) (a' := ?_) (bl 5 14) rfl rfl (any_of HT_.out (by kernel_rfl)) (fun _ _ _ h => h) (Or.inl ⟨by rfl, ?_⟩) ?_ ?_
                  rotate_left
                  ·intro w'
                   go_simp
                   with_reducible rfl
                  rotate_left
                  ·simp only [Act.put, List.setIfInBounds_toArray, List.set_cons_zero, List.set_cons_succ, i64_w, i32_w]
                   rfl
                  refine pure_ (i := 7) (N := some 107) (v := ?_) (a' := ?_) #[true, true, true, true, true, false, false, true, false, false, false, false, false, false] rfl rfl (any_of HT_.out (by kernel_rfl)) (fun _ _ _ h => h) (Or.inl ⟨by rfl, ?_⟩) ?_ ?_
                  rotate_left
                  ·intro w'
                   go_simp
                   with_reducible rfl
                  rotate_left
                  ·simp only [Act.put, List.setIfInBounds_toArray, List.set_cons_zero, List.set_cons_succ, i64_w, i32_w]
                   rfl
                  refine pure_ (i := 8) (N := some 108) (v := ?_) (a' := ?_) #[true, true, true, true, true, false, false, true, true, false, false, false, false, false] rfl rfl (any_of HT_.out (by kernel_rfl)) (fun _ _ _ h => h) (Or.inl ⟨by rfl, ?_⟩) ?_ ?_
                  rotate_left
                  ·intro w'
                   go_simp
                   with_reducible rfl
                  rotate_left
                  ·simp only [Act.put, List.setIfInBounds_toArray, List.set_cons_zero, List.set_cons_succ, i64_w, i32_w]
                   rfl
                  refine pure_ (i := 9) (N := some 109) (v := ?_) (a' := ?_) #[true, true, true, true, true, false, false, true, true, true, false, false, false, false] rfl rfl (any_of HT_.out (by kernel_rfl)) (fun _ _ _ h => h) (Or.inl ⟨by rfl, ?_⟩) ?_ ?_
                  rotate_left
                  ·intro w'
                   go_simp
                   with_reducible rfl
                  rotate_left
                  ·simp only [Act.put, List.setIfInBounds_toArray, List.set_cons_zero, List.set_cons_succ, i64_w, i32_w]
                   rfl
                  refine pure_ (i := 10) (N := some 110) (v := ?_) (a' := ?_) #[true, true, true, true, true, false, false, true, true, true, true, false, false, false] rfl rfl (any_of HT_.out (by kernel_rfl)) (fun _ _ _ h => h) (Or.inl ⟨by rfl, ?_⟩) ?_ ?_
                  rotate_left
                  ·intro w'
                   go_simp
                   with_reducible rfl
                  rotate_left
                  ·simp only [Act.put, List.setIfInBounds_toArray, List.set_cons_zero, List.set_cons_succ, i64_w, i32_w]
                   rfl
                  refine take_ (i := 5) (N := some 105) (v := ?_) (a' := ?_) #[true, true, true, true, true, true, false, true, true, true, true, false, false, false] rfl rfl (take_ofW HT_.out HW_.out (by kernel_rfl)) (fun _ _ _ h => h) (Or.inl ⟨by rfl, ?_⟩) hHeld ?_ ?_
                  rotate_left
                  ·rintro w' ⟨s0, s1, s2, s3, s4, s5, s6, s7⟩
                   go_simp
                   with_reducible rfl
                  rotate_left
                  ·simp only [Act.put, List.setIfInBounds_toArray, List.set_cons_zero, List.set_cons_succ, i64_w, i32_w]
                   rfl
                  refine take_ (i := 11) (N := some 111) (v := ?_) (a' := ?_) #[true, true, true, true, true, true, false, true, true, true, true, true, false, false] rfl rfl (take_ofW HT_.out HW_.out (by kernel_rfl)) (fun _ _ _ h => h) (Or.inl ⟨by rfl, ?_⟩) hHeld ?_ ?_
                  rotate_left
                  ·rintro w' ⟨s0, s1, s2, s3, s4, s5, s6, s7⟩
                   go_simp
                   with_reducible rfl
                  rotate_left
                  ·simp only [Act.put, List.setIfInBounds_toArray, List.set_cons_zero, List.set_cons_succ, i64_w, i32_w]
                   rfl
                  refine one_ (i := 6) (N := some 106) (bl 12 14) rfl rfl (one_of HT_.out (by kernel_rfl)) (by decide) (fun K hK => ?_)
                  refine goes_ Try.func15 (by kernel_rfl) rfl #[.slice Ao56 x9_3.length co56, .agg #[.int .i64 ((rd_T36 l0 x11_4).f0.f0), .int .i64 ((rd_T36 l0 x11_4).f0.f1)]] (by rfl) rfl rfl (by (try simp only [List.map_toArray, List.map_cons, List.map_nil]); first | done | rfl | (simp only [List.length_drop, List.length_take]; rfl)) ?_
                  with_reducible refine (quernlaw13_held.calls k4 _ _ x9_3 ((rd_T36 l0 x11_4).f0.f0) ((rd_T36 l0 x11_4).f0.f1) t318 _ ?side1 ?side2 A48.out).mono ?_
                  (case side1 => repeat (first | exact (Kd.R_reads' HO_9.out).2.2 | (with_reducible refine Kd.C_alloc ?_ _) | (with_reducible refine Kd.C_drewN ?_ _) | (with_reducible refine Kd.C_drew ?_)))
                  (case side2 => exact (Kd.R_reads' HO_9.out).2.1)
                  rintro e w57 ⟨rfl, hb⟩
                  refine ⟨_, rfl, ?_⟩
                  have n0_ := Aside0.mk (Kd.R_below (by (with_reducible repeat (first | apply Kd.R_alloc | apply Kd.R_drewN | apply Kd.R_drew)); exact HO_7.out) hb)
                  have n1_ := Aside0.mk (Kd.R_below (by (with_reducible repeat (first | apply Kd.R_alloc | apply Kd.R_drewN | apply Kd.R_drew)); exact HO_9.out) hb)
                  have n2_ := Aside0.mk (blk_below (g := gb289) (o := .cells #[.int .i64 a1_0, .int .i64 a1_1] 24 (0, 0)) (by (with_reducible repeat (first | refine blk_drewN ?_ _ | refine blk_drew ?_ | refine blk_alloc ?_ _)); exact BK289.out) hb)
                  have n3_ := Aside0.mk (below_step (by repeat (first | (with_reducible first | exact HB.out | apply below_alloc | apply pw_below_drewN | apply below_drew1 | refine below_set ?_ GE289.out) | exact HB.out)) hb)
                  clear HO_7
                  clear HO_9
                  clear BK289
                  clear HB
                  have HO_7 := n0_
                  have HO_9 := n1_
                  have BK289 := n2_
                  have HB := n3_
                  clear n0_ n1_ n2_ n3_
                  (try clear hb)
                  (try clear hb2)
                  (try clear hk)
                  (try clear hi)
                  refine hK.out _ _ ⟨(cellA HB hw317_0), (cellA HB hw317_1), (cellA HB hw317_2), (cellA HB hw317_3), (cellA HB hw319_0), (cellA HB hw319_1), (cellA HB hw319_2), (cellA HB hw319_3)⟩ (fun hHeld => ?_)
                  clear hK K
                  refine norm_ (a' := ?_) ?_ ?_
                  rotate_left
                  ·show Act.put _ (some 106) _ = _
                   simp only [Act.put, List.setIfInBounds_toArray, List.set_cons_zero, List.set_cons_succ, i64_w, i32_w]
                   rfl
                  refine one_ (i := 12) (N := some 112) (bl 13 14) rfl rfl (one_of HT_.out (by kernel_rfl)) (by decide) (fun K hK => ?_)
                  refine goes_ Try.func15 (by kernel_rfl) rfl #[.slice none 0 0, .agg #[.int .i64 ((rd_T36 l0 x11_4).f1.f0), .int .i64 ((rd_T36 l0 x11_4).f1.f1)]] (by rfl) rfl rfl (by (try simp only [List.map_toArray, List.map_cons, List.map_nil]); first | done | rfl | (simp only [List.length_drop, List.length_take]; rfl)) ?_
                  refine (quernlaw13_held.calls k4 _ _ ([] : List (S39)) ((rd_T36 l0 x11_4).f1.f0) ((rd_T36 l0 x11_4).f1.f1) t320 _ ?side1 ?side2 A49.out).mono ?_
                  (case side1 => exact Kd.C_nil _ _)
                  (case side2 => exact Nat.le_refl _)
                  rintro e w58 ⟨rfl, hb⟩
                  refine ⟨_, rfl, ?_⟩
                  have n0_ := Aside0.mk (Kd.R_below (by (with_reducible repeat (first | apply Kd.R_alloc | apply Kd.R_drewN | apply Kd.R_drew)); exact HO_7.out) hb)
                  have n1_ := Aside0.mk (Kd.R_below (by (with_reducible repeat (first | apply Kd.R_alloc | apply Kd.R_drewN | apply Kd.R_drew)); exact HO_9.out) hb)
                  have n2_ := Aside0.mk (blk_below (g := gb289) (o := .cells #[.int .i64 a1_0, .int .i64 a1_1] 24 (0, 0)) (by (with_reducible repeat (first | refine blk_drewN ?_ _ | refine blk_drew ?_ | refine blk_alloc ?_ _)); exact BK289.out) hb)
                  have n3_ := Aside0.mk (below_step (by repeat (first | (with_reducible first | exact HB.out | apply below_alloc | apply pw_below_drewN | apply below_drew1 | refine below_set ?_ GE289.out) | exact HB.out)) hb)
                  clear HO_7
                  clear HO_9
                  clear BK289
                  clear HB
                  have HO_7 := n0_
                  have HO_9 := n1_
                  have BK289 := n2_
                  have HB := n3_
                  clear n0_ n1_ n2_ n3_
                  (try clear hb)
                  (try clear hb2)
                  (try clear hk)
                  (try clear hi)
                  refine hK.out _ _ ⟨(cellA HB hw317_0), (cellA HB hw317_1), (cellA HB hw317_2), (cellA HB hw317_3), (cellA HB hw319_0), (cellA HB hw319_1), (cellA HB hw319_2), (cellA HB hw319_3)⟩ (fun hHeld => ?_)
                  clear hK K
                  refine norm_ (a' := ?_) ?_ ?_
                  rotate_left
                  ·show Act.put _ (some 112) _ = _
                   simp only [Act.put, List.setIfInBounds_toArray, List.set_cons_zero, List.set_cons_succ, i64_w, i32_w]
                   rfl
                  refine pure_ (i := 13) (N := some 113) (v := ?_) (a' := ?_) (bl 14 14) rfl rfl (any_of HT_.out (by kernel_rfl)) (fun _ _ _ h => h) (Or.inl ⟨by rfl, ?_⟩) ?_ ?_
                  rotate_left
                  ·intro w'
                   go_simp
                   with_reducible rfl
                  rotate_left
                  ·simp only [Act.put, List.setIfInBounds_toArray, List.set_cons_zero, List.set_cons_succ, i64_w, i32_w]
                   rfl
                  refine done_ (done_of HT_.out (by kernel_rfl)) ?_
                  try go_wp2
                  go_ret
                  exact ⟨by first | rfl | (simp [errW_none, errW_some] <;> rfl) | (simp [*, errW_none, errW_some] <;> rfl), by repeat (first | (with_reducible first | exact HB.out | apply below_alloc | apply pw_below_drewN | apply below_drew1 | refine below_set ?_ GE289.out) | exact HB.out)⟩
                ·rw [if_neg c47] at H
                 exact absurd H (by simp)
               ·rw [if_neg c46] at H
                have c46b0 : decide (x11_4 < (l0.length : Int)) = false := decide_eq_false c46
                clear c46
                have H' := Aside0.mk H
                clear H
                go_wp2
                go_loopg [12] k4 (fun kq v12 w' => ∃ (x12_5 : Int), v12 = .int .i64 x12_5 ∧ Aside0 (quernlaw13_MovesDo.l2 kq l0 t298 x12_5 a1_0 a1_1 = some r) ∧ Aside0 (kq ≤ k4) ∧ Aside0 (Kd.R k36 36 w' w.heap.size (fun _ => True) (.slice Ao45 t298.length co45) t298) ∧ Aside0 (w'.heap[gb289]? = some (.cells #[.int .i64 a1_0, .int .i64 a1_1] 24 (0, 0))) ∧ Aside0 (Below w.heap.size w w'))
                case atStart => exact ⟨(0), (by first | rfl | (simp; done) | (simp [*]; done)), H', ⟨Nat.le_refl _⟩, ⟨by (with_reducible repeat (first | apply Kd.R_alloc | apply Kd.R_drewN | apply Kd.R_drew)); exact HO_7.out⟩, ⟨by (with_reducible repeat (first | refine blk_drewN ?_ _ | refine blk_drew ?_ | refine blk_alloc ?_ _)); exact BK289.out⟩, ⟨by repeat (first | (with_reducible first | exact HB.out | apply below_alloc | apply pw_below_drewN | apply below_drew1 | refine below_set ?_ GE289.out) | exact HB.out)⟩⟩
                case round =>
                 clear H'
                 try clear c1
                 try clear q1
                 try clear c2
                 try clear p2
                 try clear c3
                 try clear p3
                 try clear q3
                 try clear hx3
                 try clear c4
                 try clear c5
                 try clear p6
                 try clear c10
                 try clear c10b0
                 try clear c10b1
                 try clear c11
                 try clear c11b0
                 try clear c11b1
                 try clear c14
                 try clear c15
                 try clear q18
                 try clear c23
                 try clear c23b0
                 try clear c23b1
                 try clear c25
                 try clear c26
                 try clear c26b0
                 try clear c27
                 try clear c27b0
                 try clear c28
                 try clear c28b0
                 try clear c28b1
                 try clear c30
                 try clear p30
                 try clear q30
                 try clear hx30
                 try clear p31
                 try clear q31
                 try clear hx31
                 try clear c36
                 try clear c36b0
                 try clear c36b1
                 try clear c38
                 try clear c46
                 try clear c46b0
                 try clear c47
                 try clear c47b0
                 try clear c50
                 try clear c50b0
                 try clear c50b1
                 try clear hcz21_0
                 try clear hcz21_1
                 try clear hfz21_0
                 try clear hfz21_1
                 try clear hx303_0
                 try clear hx303_1
                 try clear hx303_2
                 try clear hx303_3
                 try clear hx304_0
                 try clear hx304_1
                 try clear hx304_2
                 try clear hx304_3
                 try clear hx305_0
                 try clear hx305_1
                 try clear hx305_2
                 try clear hx305_3
                 try clear hx310_0
                 try clear hx310_1
                 try clear hx310_2
                 try clear hx310_3
                 try clear hx311_0
                 try clear hx311_1
                 try clear hx311_2
                 try clear hx311_3
                 try clear hx312_0
                 try clear hx312_1
                 try clear hx312_2
                 try clear hx312_3
                 try clear hx317_0
                 try clear hx317_1
                 try clear hx317_2
                 try clear hx317_3
                 try clear hx319_0
                 try clear hx319_1
                 try clear hx319_2
                 try clear hx319_3
                 try clear p2
                 try clear p3
                 try clear p30
                 try clear p303
                 try clear p304
                 try clear p305
                 try clear p31
                 try clear p310
                 try clear p311
                 try clear p312
                 try clear p317
                 try clear p319
                 try clear p6
                 try clear q1
                 try clear q18
                 try clear q3
                 try clear q30
                 try clear q303
                 try clear q304
                 try clear q305
                 try clear q31
                 try clear q310
                 try clear q311
                 try clear q312
                 try clear q317
                 try clear q319
                 obtain ⟨x12_5, rfl, HA, HK5, HO_7, BK289, HB⟩ := hrel
                 cases gk with
                 | zero => exact absurd HA.out (by simp [quernlaw13_MovesDo.l2])
                 | succ k5 =>
                  have H := HA.out
                  clear HA
                  simp only [quernlaw13_MovesDo.l2] at H
                  by_cases c59 : x12_5 < (t298.length : Int)
                  ·rw [if_pos c59] at H
                   have c59b0 : decide (x12_5 < (t298.length : Int)) = true := decide_eq_true c59
                   clear c59
                   by_cases c60 : 0 ≤ x12_5
                   ·rw [if_pos c60] at H
                    have c60b0 : decide (0 ≤ x12_5) = true := decide_eq_true c60
                    clear c60
                    have H' := Aside0.mk H
                    clear H
                    try go_wp2
                    have n0_ := Aside0.mk (Kd.R_drew HO_7.out)
                    have n1_ := Aside0.mk (blk_drew BK289.out)
                    have n2_ := Aside0.mk (below_drew1 HB.out)
                    clear HO_7
                    clear BK289
                    clear HB
                    have HO_7 := n0_
                    have BK289 := n1_
                    have HB := n2_
                    clear n0_ n1_ n2_
                    have p321 : 0 ≤ (x12_5 : Int) := of_decide_eq_true (by first | (with_reducible assumption) | assumption)
                    have q321 : x12_5 < (t298.length : Int) := of_decide_eq_true (by first | (with_reducible assumption) | assumption)
                    obtain ⟨ad321, e321, hx321_0, hx321_1, hx321_2, hx321_3⟩ := at_T36 (Kd.R_reads' HO_7.out).2.2 x12_5 p321 q321
                    cases e321
                    replace p321 := eq_true p321
                    replace q321 := eq_true q321
                    refine start_ (n := 8) (S := fun w' => w'.cell? ⟨gb289, 0, none⟩ = some (.int .i64 a1_0) ∧ w'.cell? ⟨gb289, 1, none⟩ = some (.int .i64 a1_1) ∧ w'.cell? (ad321.add ((x12_5).toNat * 4)) = some (.int .i64 ((rd_T36 t298 x12_5).f0.f0)) ∧ w'.cell? ⟨(ad321.add ((x12_5).toNat * 4)).block, (ad321.add ((x12_5).toNat * 4)).off + 1, none⟩ = some (.int .i64 ((rd_T36 t298 x12_5).f0.f1)) ∧ w'.cell? ⟨(ad321.add ((x12_5).toNat * 4)).block, (ad321.add ((x12_5).toNat * 4)).off + 2, none⟩ = some (.int .i64 ((rd_T36 t298 x12_5).f1.f0)) ∧ w'.cell? ⟨(ad321.add ((x12_5).toNat * 4)).block, (ad321.add ((x12_5).toNat * 4)).off + 3, none⟩ = some (.int .i64 ((rd_T36 t298 x12_5).f1.f1))) (ds := []) (bl 0 8) (by kernel_rfl) rfl rfl ⟨(blk_cell BK289.out 0).trans rfl, (blk_cell BK289.out 1).trans rfl, hx321_0, hx321_1, hx321_2, hx321_3⟩ (fun hHeld => ?_); refine with_tabW quernlaw13_MovesDo.tab25 quernlaw13_MovesDo.bits25 (fun HT_ HW_ => ?_)
                    generalize wr.drew = w61 at HO_7 BK289 HB hx321_0 hx321_1 hx321_2 hx321_3 hHeld ⊢
                    refine pure_ (i := 0) (N := some 120) (v := ?_) (a' := ?_) (bl 1 8) rfl rfl (any_of HT_.out (by kernel_rfl)) (fun _ _ _ h => h) (Or.inl ⟨by rfl, ?_⟩) ?_ ?_
                    rotate_left
                    ·intro w'
                     go_simp
                     with_reducible rfl
                    rotate_left
                    ·simp only [Act.put, List.setIfInBounds_toArray, List.set_cons_zero, List.set_cons_succ, i64_w, i32_w]
                     rfl
                    refine pure_ (i := 1) (N := some 121) (v := ?_) (a' := ?_) (bl 2 8) rfl rfl (any_of HT_.out (by kernel_rfl)) (fun _ _ _ h => h) (Or.inl ⟨by rfl, ?_⟩) ?_ ?_
                    rotate_left
                    ·intro w'
                     go_simp
                     with_reducible rfl
                    rotate_left
                    ·simp only [Act.put, List.setIfInBounds_toArray, List.set_cons_zero, List.set_cons_succ, i64_w, i32_w]
                     rfl
                    refine pure_ (i := 2) (N := some 122) (v := ?_) (a' := ?_) (bl 3 8) rfl rfl (any_of HT_.out (by kernel_rfl)) (fun _ _ _ h => h) (Or.inl ⟨by rfl, ?_⟩) ?_ ?_
                    rotate_left
                    ·intro w'
                     go_simp
                     with_reducible rfl
                    rotate_left
                    ·simp only [Act.put, List.setIfInBounds_toArray, List.set_cons_zero, List.set_cons_succ, i64_w, i32_w]
                     rfl
                    refine pure_ (i := 3) (N := some 123) (v := ?_) (a' := ?_) (bl 4 8) rfl rfl (any_of HT_.out (by kernel_rfl)) (fun _ _ _ h => h) (Or.inl ⟨by rfl, ?_⟩) ?_ ?_
                    rotate_left
                    ·intro w'
                     go_simp
                     with_reducible rfl
                    rotate_left
                    ·simp only [Act.put, List.setIfInBounds_toArray, List.set_cons_zero, List.set_cons_succ, i64_w, i32_w]
                     rfl
                    refine take_ (i := 4) (N := some 124) (v := ?_) (a' := ?_) (bl 5 8) rfl rfl (take_ofW HT_.out HW_.out (by kernel_rfl)) (fun _ _ _ h => h) (Or.inl ⟨by rfl, ?_⟩) hHeld ?_ ?_
                    rotate_left
                    ·rintro w' ⟨s0, s1, s2, s3, s4, s5⟩
                     go_simp
                     with_reducible rfl
                    rotate_left
                    ·simp only [Act.put, List.setIfInBounds_toArray, List.set_cons_zero, List.set_cons_succ, i64_w, i32_w]
                     rfl
                    refine take_ (i := 5) (N := some 125) (v := ?_) (a' := ?_) (bl 6 8) rfl rfl (take_ofW HT_.out HW_.out (by kernel_rfl)) (fun _ _ _ h => h) (Or.inl ⟨by rfl, ?_⟩) hHeld ?_ ?_
                    rotate_left
                    ·rintro w' ⟨s0, s1, s2, s3, s4, s5⟩
                     go_simp
                     with_reducible rfl
                    rotate_left
                    ·simp only [Act.put, List.setIfInBounds_toArray, List.set_cons_zero, List.set_cons_succ, i64_w, i32_w]
                     rfl
                    refine pure_ (i := 6) (N := some 126) (v := ?_) (a' := ?_) (bl 7 8) rfl rfl (any_of HT_.out (by kernel_rfl)) (fun _ _ _ h => h) (Or.inl ⟨by rfl, ?_⟩) ?_ ?_
                    rotate_left
                    ·intro w'
                     go_simp
                     with_reducible rfl
                    rotate_left
                    ·simp only [Act.put, List.setIfInBounds_toArray, List.set_cons_zero, List.set_cons_succ, i64_w, i32_w]
                     rfl
                    refine pure_ (i := 7) (N := some 13) (v := ?_) (a' := ?_) (bl 8 8) rfl rfl (any_of HT_.out (by kernel_rfl)) (fun _ _ _ h => h) (Or.inl ⟨by rfl, ?_⟩) ?_ ?_
                    rotate_left
                    ·intro w'
                     go_simp
                     with_reducible rfl
                    rotate_left
                    ·simp only [Act.put, List.setIfInBounds_toArray, List.set_cons_zero, List.set_cons_succ, i64_w, i32_w]
                     rfl
                    refine done_ (done_of HT_.out (by kernel_rfl)) ?_
                    try go_wp2
                    go_loopg [13, 14] k5 (fun kq v13 v14 w' => ∃ (x13_6 : Bool) (x14_6 : Int), v13 = .bool x13_6 ∧ v14 = .int .i64 x14_6 ∧ Aside0 (quernlaw13_MovesDo.l3 kq l0 t298 x12_5 x13_6 x14_6 a1_0 a1_1 = some r) ∧ Aside0 (kq ≤ k5) ∧ Aside0 (Kd.R k36 36 w' w.heap.size (fun _ => True) (.slice (some ad321) t298.length co45) t298) ∧ Aside0 (w'.heap[gb289]? = some (.cells #[.int .i64 a1_0, .int .i64 a1_1] 24 (0, 0))) ∧ Aside0 (Below w.heap.size w w'))
                    case atStart => exact ⟨((((rd_T36 t298 x12_5).f0.f0) == a1_0 && (((rd_T36 t298 x12_5).f0.f1) == a1_1))), (0), (by first | rfl | (simp; done) | (simp [*]; done)), (by first | rfl | (simp; done) | (simp [*]; done)), H', ⟨Nat.le_refl _⟩, ⟨by (with_reducible repeat (first | apply Kd.R_alloc | apply Kd.R_drewN | apply Kd.R_drew)); exact HO_7.out⟩, ⟨by (with_reducible repeat (first | refine blk_drewN ?_ _ | refine blk_drew ?_ | refine blk_alloc ?_ _)); exact BK289.out⟩, ⟨by repeat (first | (with_reducible first | exact HB.out | apply below_alloc | apply pw_below_drewN | apply below_drew1 | refine below_set ?_ GE289.out) | exact HB.out)⟩⟩
                    case round =>
                     clear H'
                     try clear c1
                     try clear q1
                     try clear c2
                     try clear p2
                     try clear c3
                     try clear p3
                     try clear q3
                     try clear hx3
                     try clear c4
                     try clear c5
                     try clear c6
                     try clear p6
                     try clear c10
                     try clear c10b0
                     try clear c10b1
                     try clear c11
                     try clear c11b0
                     try clear c11b1
                     try clear c14
                     try clear c15
                     try clear q18
                     try clear c23
                     try clear c23b0
                     try clear c23b1
                     try clear c25
                     try clear c26
                     try clear c26b0
                     try clear c27
                     try clear c27b0
                     try clear c28
                     try clear c28b0
                     try clear c28b1
                     try clear c30
                     try clear p30
                     try clear q30
                     try clear hx30
                     try clear p31
                     try clear q31
                     try clear hx31
                     try clear p32
                     try clear q32
                     try clear hx32
                     try clear c36
                     try clear c36b0
                     try clear c36b1
                     try clear c38
                     try clear c46
                     try clear c46b0
                     try clear c47
                     try clear c47b0
                     try clear c50
                     try clear c50b0
                     try clear c50b1
                     try clear c59
                     try clear c59b0
                     try clear c60
                     try clear c60b0
                     try clear hcz21_0
                     try clear hcz21_1
                     try clear hfz21_0
                     try clear hfz21_1
                     try clear hx303_0
                     try clear hx303_1
                     try clear hx303_2
                     try clear hx303_3
                     try clear hx304_0
                     try clear hx304_1
                     try clear hx304_2
                     try clear hx304_3
                     try clear hx305_0
                     try clear hx305_1
                     try clear hx305_2
                     try clear hx305_3
                     try clear hx310_0
                     try clear hx310_1
                     try clear hx310_2
                     try clear hx310_3
                     try clear hx311_0
                     try clear hx311_1
                     try clear hx311_2
                     try clear hx311_3
                     try clear hx312_0
                     try clear hx312_1
                     try clear hx312_2
                     try clear hx312_3
                     try clear hx317_0
                     try clear hx317_1
                     try clear hx317_2
                     try clear hx317_3
                     try clear hx319_0
                     try clear hx319_1
                     try clear hx319_2
                     try clear hx319_3
                     try clear hx321_0
                     try clear hx321_1
                     try clear hx321_2
                     try clear hx321_3
                     try clear p2
                     try clear p3
                     try clear p30
                     try clear p303
                     try clear p304
                     try clear p305
                     try clear p31
                     try clear p310
                     try clear p311
                     try clear p312
                     try clear p317
                     try clear p319
                     try clear p321
                     try clear p6
                     try clear q1
                     try clear q18
                     try clear q3
                     try clear q30
                     try clear q303
                     try clear q304
                     try clear q305
                     try clear q31
                     try clear q310
                     try clear q311
                     try clear q312
                     try clear q317
                     try clear q319
                     try clear q321
                     obtain ⟨x13_6, x14_6, rfl, rfl, HA, HK6, HO_7, BK289, HB⟩ := hrel
                     cases gk with
                     | zero => exact absurd HA.out (by simp [quernlaw13_MovesDo.l3])
                     | succ k6 =>
                      have H := HA.out
                      clear HA
                      simp only [quernlaw13_MovesDo.l3] at H
                      by_cases c62 : x14_6 < (l0.length : Int)
                      ·rw [if_pos c62] at H
                       have c62b0 : decide (x14_6 < (l0.length : Int)) = true := decide_eq_true c62
                       clear c62
                       by_cases c63 : x13_6 = true
                       ·subst c63
                        have H1 : (quernlaw13_MovesDo.l3 k6 l0 t298 x12_5 true (wrap64 (x14_6 + 1)) a1_0 a1_1) = some r := by rw [if_pos rfl] at H; exact H
                        clear H
                        have H := H1
                        clear H1
                        have H' := Aside0.mk H
                        clear H
                        try go_wp2
                        have n0_ := Aside0.mk (Kd.R_drew HO_7.out)
                        have n1_ := Aside0.mk (blk_drew BK289.out)
                        have n2_ := Aside0.mk (below_drew1 HB.out)
                        clear HO_7
                        clear BK289
                        clear HB
                        have HO_7 := n0_
                        have BK289 := n1_
                        have HB := n2_
                        clear n0_ n1_ n2_
                        refine start_ (n := 15) (S := fun w' => True) (ds := []) (bl 0 15) (by kernel_rfl) rfl rfl trivial (fun hHeld => ?_); refine with_tabW quernlaw13_MovesDo.tab29 quernlaw13_MovesDo.bits29 (fun HT_ HW_ => ?_)
                        generalize wr.drew = w64 at HO_7 BK289 HB hHeld ⊢
                        refine pure_ (i := 0) (N := some 133) (v := ?_) (a' := ?_) (bl 1 15) rfl rfl (any_of HT_.out (by kernel_rfl)) (fun _ _ _ h => h) (Or.inl ⟨by rfl, ?_⟩) ?_ ?_
                        rotate_left
                        ·intro w'
                         go_simp
                         with_reducible rfl
                        rotate_left
                        ·simp only [Act.put, List.setIfInBounds_toArray, List.set_cons_zero, List.set_cons_succ, i64_w, i32_w]
                         rfl
                        refine pure_ (i := 1) (N := some 134) (v := ?_) (a' := ?_) (bl 2 15) rfl rfl (any_of HT_.out (by kernel_rfl)) (fun _ _ _ h => h) (Or.inl ⟨by rfl, ?_⟩) ?_ ?_
                        rotate_left
                        ·intro w'
                         go_simp
                         with_reducible rfl
                        rotate_left
                        ·simp only [Act.put, List.setIfInBounds_toArray, List.set_cons_zero, List.set_cons_succ, i64_w, i32_w]
                         rfl
                        refine pure_ (i := 2) (N := some 135) (v := undef) (a' := ?_) (bl 3 15) rfl rfl (any_of HT_.out (by kernel_rfl)) (fun _ _ _ h => h) (Or.inr ⟨by rfl, rfl⟩) ?_ ?_
                        rotate_left
                        ·simp only [Act.put, List.setIfInBounds_toArray, List.set_cons_zero, List.set_cons_succ, i64_w, i32_w]
                         rfl
                        refine pure_ (i := 3) (N := some 136) (v := undef) (a' := ?_) (bl 4 15) rfl rfl (any_of HT_.out (by kernel_rfl)) (fun _ _ _ h => h) (Or.inr ⟨by rfl, rfl⟩) ?_ ?_
                        rotate_left
                        ·simp only [Act.put, List.setIfInBounds_toArray, List.set_cons_zero, List.set_cons_succ, i64_w, i32_w]
                         rfl
                        refine pure_ (i := 4) (N := some 137) (v := undef) (a' := ?_) (bl 5 15) rfl rfl (any_of HT_.out (by kernel_rfl)) (fun _ _ _ h => h) (Or.inr ⟨by rfl, rfl⟩) ?_ ?_
                        rotate_left
                        ·simp only [Act.put, List.setIfInBounds_toArray, List.set_cons_zero, List.set_cons_succ, i64_w, i32_w]
                         rfl
                        refine pure_ (i := 5) (N := some 138) (v := undef) (a' := ?_) (bl 6 15) rfl rfl (any_of HT_.out (by kernel_rfl)) (fun _ _ _ h => h) (Or.inr ⟨by rfl, rfl⟩) ?_ ?_
                        rotate_left
                        ·simp only [Act.put, List.setIfInBounds_toArray, List.set_cons_zero, List.set_cons_succ, i64_w, i32_w]
                         rfl
                        refine pure_ (i := 6) (N := some 139) (v := undef) (a' := ?_) (bl 7 15) rfl rfl (any_of HT_.out (by kernel_rfl)) (fun _ _ _ h => h) (Or.inr ⟨by rfl, rfl⟩) ?_ ?_
                        rotate_left
                        ·simp only [Act.put, List.setIfInBounds_toArray, List.set_cons_zero, List.set_cons_succ, i64_w, i32_w]
                         rfl
                        refine pure_ (i := 7) (N := some 140) (v := undef) (a' := ?_) (bl 8 15) rfl rfl (any_of HT_.out (by kernel_rfl)) (fun _ _ _ h => h) (Or.inr ⟨by rfl, rfl⟩) ?_ ?_
                        rotate_left
                        ·simp only [Act.put, List.setIfInBounds_toArray, List.set_cons_zero, List.set_cons_succ, i64_w, i32_w]
                         rfl
                        refine pure_ (i := 8) (N := some 141) (v := undef) (a' := ?_) (bl 9 15) rfl rfl (any_of HT_.out (by kernel_rfl)) (fun _ _ _ h => h) (Or.inr ⟨by rfl, rfl⟩) ?_ ?_
                        rotate_left
                        ·simp only [Act.put, List.setIfInBounds_toArray, List.set_cons_zero, List.set_cons_succ, i64_w, i32_w]
                         rfl
                        refine pure_ (i := 9) (N := some 142) (v := undef) (a' := ?_) (bl 10 15) rfl rfl (any_of HT_.out (by kernel_rfl)) (fun _ _ _ h => h) (Or.inr ⟨by rfl, rfl⟩) ?_ ?_
                        rotate_left
                        ·simp only [Act.put, List.setIfInBounds_toArray, List.set_cons_zero, List.set_cons_succ, i64_w, i32_w]
                         rfl
                        refine pure_ (i := 10) (N := some 143) (v := undef) (a' := ?_) (bl 11 15) rfl rfl (any_of HT_.out (by kernel_rfl)) (fun _ _ _ h => h) (Or.inr ⟨by rfl, rfl⟩) ?_ ?_
                        rotate_left
                        ·simp only [Act.put, List.setIfInBounds_toArray, List.set_cons_zero, List.set_cons_succ, i64_w, i32_w]
                         rfl
                        refine pure_ (i := 11) (N := some 144) (v := undef) (a' := ?_) (bl 12 15) rfl rfl (any_of HT_.out (by kernel_rfl)) (fun _ _ _ h => h) (Or.inr ⟨by rfl, rfl⟩) ?_ ?_
                        rotate_left
                        ·simp only [Act.put, List.setIfInBounds_toArray, List.set_cons_zero, List.set_cons_succ, i64_w, i32_w]
                         rfl
                        refine pure_ (i := 12) (N := some 145) (v := undef) (a' := ?_) (bl 13 15) rfl rfl (any_of HT_.out (by kernel_rfl)) (fun _ _ _ h => h) (Or.inr ⟨by rfl, rfl⟩) ?_ ?_
                        rotate_left
                        ·simp only [Act.put, List.setIfInBounds_toArray, List.set_cons_zero, List.set_cons_succ, i64_w, i32_w]
                         rfl
                        refine pure_ (i := 13) (N := some 146) (v := ?_) (a' := ?_) (bl 14 15) rfl rfl (any_of HT_.out (by kernel_rfl)) (fun _ _ _ h => h) (Or.inl ⟨by rfl, ?_⟩) ?_ ?_
                        rotate_left
                        ·intro w'
                         go_simp
                         with_reducible rfl
                        rotate_left
                        ·simp only [Act.put, List.setIfInBounds_toArray, List.set_cons_zero, List.set_cons_succ, i64_w, i32_w]
                         rfl
                        refine pure_ (i := 14) (N := some 13) (v := ?_) (a' := ?_) (bl 15 15) rfl rfl (any_of HT_.out (by kernel_rfl)) (fun _ _ _ h => h) (Or.inl ⟨by rfl, ?_⟩) ?_ ?_
                        rotate_left
                        ·intro w'
                         go_simp
                         with_reducible rfl
                        rotate_left
                        ·simp only [Act.put, List.setIfInBounds_toArray, List.set_cons_zero, List.set_cons_succ, i64_w, i32_w]
                         rfl
                        refine done_ (done_of HT_.out (by kernel_rfl)) ?_
                        try go_wp2
                        go_roundg k6
                        case measure => have := HJ3.out; have := HJ14.out; have := HK3.out; have := HK4.out; have := HK5.out; have := HK6.out; omega
                        case rel => exact ⟨(true), (wrap64 (x14_6 + 1)), (by first | rfl | (simp; done) | (simp [*]; done)), (by first | rfl | (simp; done) | (simp [*]; done)), H', ⟨by have := HJ3.out; have := HJ14.out; have := HK3.out; have := HK4.out; have := HK5.out; have := HK6.out; omega⟩, ⟨by (with_reducible repeat (first | apply Kd.R_alloc | apply Kd.R_drewN | apply Kd.R_drew)); exact HO_7.out⟩, ⟨by (with_reducible repeat (first | refine blk_drewN ?_ _ | refine blk_drew ?_ | refine blk_alloc ?_ _)); exact BK289.out⟩, ⟨by repeat (first | (with_reducible first | exact HB.out | apply below_alloc | apply pw_below_drewN | apply below_drew1 | refine below_set ?_ GE289.out) | exact HB.out)⟩⟩
                       ·replace c63 := Bool.eq_false_iff.mpr c63
                        subst c63
                        have H1 : (if 0 ≤ x14_6 then (if 0 ≤ x12_5 then (if x12_5 < (t298.length : Int) then (quernlaw13_MovesDo.l3 k6 l0 t298 x12_5 (((rd_T36 l0 x14_6).f0.f0) == ((rd_T36 t298 x12_5).f0.f0) && (((rd_T36 l0 x14_6).f0.f1) == ((rd_T36 t298 x12_5).f0.f1))) (wrap64 (x14_6 + 1)) a1_0 a1_1) else (none)) else (none)) else (none)) = some r := by rw [if_neg (show ¬ (false = true) by decide)] at H; exact H
                        clear H
                        have H := H1
                        clear H1
                        by_cases c65 : 0 ≤ x14_6
                        ·rw [if_pos c65] at H
                         have c65b0 : decide (0 ≤ x14_6) = true := decide_eq_true c65
                         clear c65
                         by_cases c66 : 0 ≤ x12_5
                         ·rw [if_pos c66] at H
                          have c66b0 : decide (0 ≤ x12_5) = true := decide_eq_true c66
                          clear c66
                          by_cases c67 : x12_5 < (t298.length : Int)
                          ·rw [if_pos c67] at H
                           have c67b0 : decide (x12_5 < (t298.length : Int)) = true := decide_eq_true c67
                           clear c67
                           have H' := Aside0.mk H
                           clear H
                           try go_wp2
                           have n0_ := Aside0.mk (Kd.R_drew HO_7.out)
                           have n1_ := Aside0.mk (blk_drew BK289.out)
                           have n2_ := Aside0.mk (below_drew1 HB.out)
                           clear HO_7
                           clear BK289
                           clear HB
                           have HO_7 := n0_
                           have BK289 := n1_
                           have HB := n2_
                           clear n0_ n1_ n2_
                           have p322 : 0 ≤ (x14_6 : Int) := of_decide_eq_true (by first | (with_reducible assumption) | assumption)
                           have q322 : x14_6 < (l0.length : Int) := of_decide_eq_true (by first | (with_reducible assumption) | assumption)
                           obtain ⟨ad322, e322, hx322_0, hx322_1, hx322_2, hx322_3⟩ := at_T36 HR0.out x14_6 p322 q322
                           have hw322_3 := hx322_3
                           have hw322_2 := hx322_2
                           have hw322_1 := hx322_1
                           have hw322_0 := hx322_0
                           cases e322
                           replace hx322_0 := cellA HB hx322_0
                           replace hx322_1 := cellA HB hx322_1
                           replace hx322_2 := cellA HB hx322_2
                           replace hx322_3 := cellA HB hx322_3
                           replace p322 := eq_true p322
                           replace q322 := eq_true q322
                           have p323 : 0 ≤ (x12_5 : Int) := of_decide_eq_true (by first | (with_reducible assumption) | assumption)
                           have q323 : x12_5 < (t298.length : Int) := of_decide_eq_true (by first | (with_reducible assumption) | assumption)
                           obtain ⟨ad323, e323, hx323_0, hx323_1, hx323_2, hx323_3⟩ := at_T36 (Kd.R_reads' HO_7.out).2.2 x12_5 p323 q323
                           obtain rfl : ad321 = ad323 := (by injection e323)
                           replace p323 := eq_true p323
                           replace q323 := eq_true q323
                           refine start_ (n := 15) (S := fun w' => w'.cell? (ad322.add ((x14_6).toNat * 4)) = some (.int .i64 ((rd_T36 l0 x14_6).f0.f0)) ∧ w'.cell? ⟨(ad322.add ((x14_6).toNat * 4)).block, (ad322.add ((x14_6).toNat * 4)).off + 1, none⟩ = some (.int .i64 ((rd_T36 l0 x14_6).f0.f1)) ∧ w'.cell? ⟨(ad322.add ((x14_6).toNat * 4)).block, (ad322.add ((x14_6).toNat * 4)).off + 2, none⟩ = some (.int .i64 ((rd_T36 l0 x14_6).f1.f0)) ∧ w'.cell? ⟨(ad322.add ((x14_6).toNat * 4)).block, (ad322.add ((x14_6).toNat * 4)).off + 3, none⟩ = some (.int .i64 ((rd_T36 l0 x14_6).f1.f1)) ∧ w'.cell? (ad321.add ((x12_5).toNat * 4)) = some (.int .i64 ((rd_T36 t298 x12_5).f0.f0)) ∧ w'.cell? ⟨(ad321.add ((x12_5).toNat * 4)).block, (ad321.add ((x12_5).toNat * 4)).off + 1, none⟩ = some (.int .i64 ((rd_T36 t298 x12_5).f0.f1)) ∧ w'.cell? ⟨(ad321.add ((x12_5).toNat * 4)).block, (ad321.add ((x12_5).toNat * 4)).off + 2, none⟩ = some (.int .i64 ((rd_T36 t298 x12_5).f1.f0)) ∧ w'.cell? ⟨(ad321.add ((x12_5).toNat * 4)).block, (ad321.add ((x12_5).toNat * 4)).off + 3, none⟩ = some (.int .i64 ((rd_T36 t298 x12_5).f1.f1))) (ds := []) (bl 0 15) (by kernel_rfl) rfl rfl ⟨(cellA HB hw322_0), (cellA HB hw322_1), (cellA HB hw322_2), (cellA HB hw322_3), hx323_0, hx323_1, hx323_2, hx323_3⟩ (fun hHeld => ?_); refine with_tabW quernlaw13_MovesDo.tab29 quernlaw13_MovesDo.bits29 (fun HT_ HW_ => ?_)
                           generalize wr.drew = w68 at HO_7 BK289 HB hx322_0 hx322_1 hx322_2 hx322_3 hx323_0 hx323_1 hx323_2 hx323_3 hHeld ⊢
                           refine pure_ (i := 0) (N := some 133) (v := ?_) (a' := ?_) (bl 1 15) rfl rfl (any_of HT_.out (by kernel_rfl)) (fun _ _ _ h => h) (Or.inl ⟨by rfl, ?_⟩) ?_ ?_
                           rotate_left
                           ·intro w'
                            go_simp
                            with_reducible rfl
                           rotate_left
                           ·simp only [Act.put, List.setIfInBounds_toArray, List.set_cons_zero, List.set_cons_succ, i64_w, i32_w]
                            rfl
                           refine pure_ (i := 1) (N := some 134) (v := ?_) (a' := ?_) (bl 2 15) rfl rfl (any_of HT_.out (by kernel_rfl)) (fun _ _ _ h => h) (Or.inl ⟨by rfl, ?_⟩) ?_ ?_
                           rotate_left
                           ·intro w'
                            go_simp
                            with_reducible rfl
                           rotate_left
                           ·simp only [Act.put, List.setIfInBounds_toArray, List.set_cons_zero, List.set_cons_succ, i64_w, i32_w]
                            rfl
                           refine pure_ (i := 2) (N := some 135) (v := ?_) (a' := ?_) (bl 3 15) rfl rfl (any_of HT_.out (by kernel_rfl)) (fun _ _ _ h => h) (Or.inl ⟨by rfl, ?_⟩) ?_ ?_
                           rotate_left
                           ·intro w'
                            go_simp
                            with_reducible rfl
                           rotate_left
                           ·simp only [Act.put, List.setIfInBounds_toArray, List.set_cons_zero, List.set_cons_succ, i64_w, i32_w]
                            rfl
                           refine pure_ (i := 3) (N := some 136) (v := ?_) (a' := ?_) (bl 4 15) rfl rfl (any_of HT_.out (by kernel_rfl)) (fun _ _ _ h => h) (Or.inl ⟨by rfl, ?_⟩) ?_ ?_
                           rotate_left
                           ·intro w'
                            go_simp
                            with_reducible rfl
                           rotate_left
                           ·simp only [Act.put, List.setIfInBounds_toArray, List.set_cons_zero, List.set_cons_succ, i64_w, i32_w]
                            rfl
                           refine pure_ (i := 4) (N := some 137) (v := ?_) (a' := ?_) (bl 5 15) rfl rfl (any_of HT_.out (by kernel_rfl)) (fun _ _ _ h => h) (Or.inl ⟨by rfl, ?_⟩) ?_ ?_
                           rotate_left
                           ·intro w'
                            go_simp
                            with_reducible rfl
                           rotate_left
                           ·simp only [Act.put, List.setIfInBounds_toArray, List.set_cons_zero, List.set_cons_succ, i64_w, i32_w]
                            rfl
                           refine pure_ (i := 5) (N := some 138) (v := ?_) (a' := ?_) (bl 6 15) rfl rfl (any_of HT_.out (by kernel_rfl)) (fun _ _ _ h => h) (Or.inl ⟨by rfl, ?_⟩) ?_ ?_
                           rotate_left
                           ·intro w'
                            go_simp
                            with_reducible rfl
                           rotate_left
                           ·simp only [Act.put, List.setIfInBounds_toArray, List.set_cons_zero, List.set_cons_succ, i64_w, i32_w]
                            rfl
                           refine pure_ (i := 7) (N := some 140) (v := ?_) (a' := ?_) #[true, true, true, true, true, true, false, true, false, false, false, false, false, false, false] rfl rfl (any_of HT_.out (by kernel_rfl)) (fun _ _ _ h => h) (Or.inl ⟨by rfl, ?_⟩) ?_ ?_
                           rotate_left
                           ·intro w'
                            go_simp
                            with_reducible rfl
                           rotate_left
                           ·simp only [Act.put, List.setIfInBounds_toArray, List.set_cons_zero, List.set_cons_succ, i64_w, i32_w]
                            rfl
                           refine pure_ (i := 8) (N := some 141) (v := ?_) (a' := ?_) #[true, true, true, true, true, true, false, true, true, false, false, false, false, false, false] rfl rfl (any_of HT_.out (by kernel_rfl)) (fun _ _ _ h => h) (Or.inl ⟨by rfl, ?_⟩) ?_ ?_
                           rotate_left
                           ·intro w'
                            go_simp
                            with_reducible rfl
                           rotate_left
                           ·simp only [Act.put, List.setIfInBounds_toArray, List.set_cons_zero, List.set_cons_succ, i64_w, i32_w]
                            rfl
                           refine pure_ (i := 9) (N := some 142) (v := ?_) (a' := ?_) #[true, true, true, true, true, true, false, true, true, true, false, false, false, false, false] rfl rfl (any_of HT_.out (by kernel_rfl)) (fun _ _ _ h => h) (Or.inl ⟨by rfl, ?_⟩) ?_ ?_
                           rotate_left
                           ·intro w'
                            go_simp
                            with_reducible rfl
                           rotate_left
                           ·simp only [Act.put, List.setIfInBounds_toArray, List.set_cons_zero, List.set_cons_succ, i64_w, i32_w]
                            rfl
                           refine pure_ (i := 10) (N := some 143) (v := ?_) (a' := ?_) #[true, true, true, true, true, true, false, true, true, true, true, false, false, false, false] rfl rfl (any_of HT_.out (by kernel_rfl)) (fun _ _ _ h => h) (Or.inl ⟨by rfl, ?_⟩) ?_ ?_
                           rotate_left
                           ·intro w'
                            go_simp
                            with_reducible rfl
                           rotate_left
                           ·simp only [Act.put, List.setIfInBounds_toArray, List.set_cons_zero, List.set_cons_succ, i64_w, i32_w]
                            rfl
                           refine take_ (i := 6) (N := some 139) (v := ?_) (a' := ?_) (bl 11 15) rfl rfl (take_ofW HT_.out HW_.out (by kernel_rfl)) (fun _ _ _ h => h) (Or.inl ⟨by rfl, ?_⟩) hHeld ?_ ?_
                           rotate_left
                           ·rintro w' ⟨s0, s1, s2, s3, s4, s5, s6, s7⟩
                            go_simp
                            with_reducible rfl
                           rotate_left
                           ·simp only [Act.put, List.setIfInBounds_toArray, List.set_cons_zero, List.set_cons_succ, i64_w, i32_w]
                            rfl
                           refine take_ (i := 11) (N := some 144) (v := ?_) (a' := ?_) (bl 12 15) rfl rfl (take_ofW HT_.out HW_.out (by kernel_rfl)) (fun _ _ _ h => h) (Or.inl ⟨by rfl, ?_⟩) hHeld ?_ ?_
                           rotate_left
                           ·rintro w' ⟨s0, s1, s2, s3, s4, s5, s6, s7⟩
                            go_simp
                            with_reducible rfl
                           rotate_left
                           ·simp only [Act.put, List.setIfInBounds_toArray, List.set_cons_zero, List.set_cons_succ, i64_w, i32_w]
                            rfl
                           refine pure_ (i := 12) (N := some 145) (v := ?_) (a' := ?_) (bl 13 15) rfl rfl (any_of HT_.out (by kernel_rfl)) (fun _ _ _ h => h) (Or.inl ⟨by rfl, ?_⟩) ?_ ?_
                           rotate_left
                           ·intro w'
                            go_simp
                            with_reducible rfl
                           rotate_left
                           ·simp only [Act.put, List.setIfInBounds_toArray, List.set_cons_zero, List.set_cons_succ, i64_w, i32_w]
                            rfl
                           refine pure_ (i := 13) (N := some 146) (v := ?_) (a' := ?_) (bl 14 15) rfl rfl (any_of HT_.out (by kernel_rfl)) (fun _ _ _ h => h) (Or.inl ⟨by rfl, ?_⟩) ?_ ?_
                           rotate_left
                           ·intro w'
                            go_simp
                            with_reducible rfl
                           rotate_left
                           ·simp only [Act.put, List.setIfInBounds_toArray, List.set_cons_zero, List.set_cons_succ, i64_w, i32_w]
                            rfl
                           refine pure_ (i := 14) (N := some 13) (v := ?_) (a' := ?_) (bl 15 15) rfl rfl (any_of HT_.out (by kernel_rfl)) (fun _ _ _ h => h) (Or.inl ⟨by rfl, ?_⟩) ?_ ?_
                           rotate_left
                           ·intro w'
                            go_simp
                            with_reducible rfl
                           rotate_left
                           ·simp only [Act.put, List.setIfInBounds_toArray, List.set_cons_zero, List.set_cons_succ, i64_w, i32_w]
                            rfl
                           refine done_ (done_of HT_.out (by kernel_rfl)) ?_
                           try go_wp2
                           go_roundg k6
                           case measure => have := HJ3.out; have := HJ14.out; have := HK3.out; have := HK4.out; have := HK5.out; have := HK6.out; omega
                           case rel => exact ⟨((((rd_T36 l0 x14_6).f0.f0) == ((rd_T36 t298 x12_5).f0.f0) && (((rd_T36 l0 x14_6).f0.f1) == ((rd_T36 t298 x12_5).f0.f1)))), (wrap64 (x14_6 + 1)), (by first | rfl | (simp; done) | (simp [*]; done)), (by first | rfl | (simp; done) | (simp [*]; done)), H', ⟨by have := HJ3.out; have := HJ14.out; have := HK3.out; have := HK4.out; have := HK5.out; have := HK6.out; omega⟩, ⟨by (with_reducible repeat (first | apply Kd.R_alloc | apply Kd.R_drewN | apply Kd.R_drew)); exact HO_7.out⟩, ⟨by (with_reducible repeat (first | refine blk_drewN ?_ _ | refine blk_drew ?_ | refine blk_alloc ?_ _)); exact BK289.out⟩, ⟨by repeat (first | (with_reducible first | exact HB.out | apply below_alloc | apply pw_below_drewN | apply below_drew1 | refine below_set ?_ GE289.out) | exact HB.out)⟩⟩
                          ·rw [if_neg c67] at H
                           exact absurd H (by simp)
                         ·rw [if_neg c66] at H
                          exact absurd H (by simp)
                        ·rw [if_neg c65] at H
                         exact absurd H (by simp)
                      ·rw [if_neg c62] at H
                       have c62b0 : decide (x14_6 < (l0.length : Int)) = false := decide_eq_false c62
                       clear c62
                       by_cases c69 : x13_6 = true
                       ·subst c69
                        have H1 : (quernlaw13_MovesDo.l2 k6 l0 t298 (wrap64 (x12_5 + 1)) a1_0 a1_1) = some r := by rw [if_pos rfl] at H; exact H
                        clear H
                        have H := H1
                        clear H1
                        have H' := Aside0.mk H
                        clear H
                        go_wp2
                        go_roundg k6
                        case measure => have := HJ3.out; have := HJ14.out; have := HK3.out; have := HK4.out; have := HK5.out; have := HK6.out; omega
                        case rel => exact ⟨(wrap64 (x12_5 + 1)), (by first | rfl | (simp; done) | (simp [*]; done)), H', ⟨by have := HJ3.out; have := HJ14.out; have := HK3.out; have := HK4.out; have := HK5.out; have := HK6.out; omega⟩, ⟨by (with_reducible repeat (first | apply Kd.R_alloc | apply Kd.R_drewN | apply Kd.R_drew)); exact HO_7.out⟩, ⟨by (with_reducible repeat (first | refine blk_drewN ?_ _ | refine blk_drew ?_ | refine blk_alloc ?_ _)); exact BK289.out⟩, ⟨by repeat (first | (with_reducible first | exact HB.out | apply below_alloc | apply pw_below_drewN | apply below_drew1 | refine below_set ?_ GE289.out) | exact HB.out)⟩⟩
                       ·replace c69 := Bool.eq_false_iff.mpr c69
                        subst c69
                        have H1 : (some false) = some r := by rw [if_neg (show ¬ (false = true) by decide)] at H; exact H
                        clear H
                        have H := H1
                        clear H1
                        obtain rfl := Option.some.inj H
                        go_wp2
                        go_ret
                        exact ⟨by first | rfl | (simp [errW_none, errW_some] <;> rfl) | (simp [*, errW_none, errW_some] <;> rfl), by repeat (first | (with_reducible first | exact HB.out | apply below_alloc | apply pw_below_drewN | apply below_drew1 | refine below_set ?_ GE289.out) | exact HB.out)⟩
                   ·rw [if_neg c60] at H
                    exact absurd H (by simp)
                  ·rw [if_neg c59] at H
                   have c59b0 : decide (x12_5 < (t298.length : Int)) = false := decide_eq_false c59
                   clear c59
                   obtain rfl := Option.some.inj H
                   go_wp2
                   go_ret
                   exact ⟨by first | rfl | (simp [errW_none, errW_some] <;> rfl) | (simp [*, errW_none, errW_some] <;> rfl), by repeat (first | (with_reducible first | exact HB.out | apply below_alloc | apply pw_below_drewN | apply below_drew1 | refine below_set ?_ GE289.out) | exact HB.out)⟩
      ·replace c14 := Bool.eq_false_iff.mpr c14
       subst c14
       have H1 : (if t301 = 0 then (some false) else (some ((t298.length : Int) == 0))) = some r := by rw [if_neg (show ¬ (false = true) by decide)] at H; exact H
       clear H
       have H := H1
       clear H1
       by_cases c70 : t301 = 0
       ·rw [if_pos c70] at H
        have c70b0 : (t301 == 0) = true := beq_iff_eq.mpr c70
        have c70b1 : (t301 != 0) = false := bne_eq_false_iff_eq.mpr c70
        clear c70
        obtain rfl := Option.some.inj H
        try go_wp2_with (first | ((with_reducible refine gate_callee (f := 9) rfl ?_); refine goesL_ (some 25) rfl rfl Try.func9 (by kernel_rfl) rfl #[.slice A0 l0.length c0] rfl (by (try simp only [List.map_toArray, List.map_cons, List.map_nil]); first | done | rfl | (simp only [List.length_drop, List.length_take]; rfl)) ?_; (with_reducible refine (quernlaw13_lent.calls _ _ l0 t291 _ ?side1 ?side2 A9.out).mono ?_); (case side1 => repeat (first | exact (Kd.C_below HR0.out HB.out) | (with_reducible refine Kd.C_alloc ?_ _) | (with_reducible refine Kd.C_drewN ?_ _) | (with_reducible refine Kd.C_drew ?_))); (case side2 => exact HC0.out); rintro e w71 ⟨v292, rfl, ho0, hb⟩; refine ⟨_, rfl, ?_⟩; have n0_ := Aside0.mk (Kd.R_lower ho0 (below_size (by repeat (first | (with_reducible first | exact HB.out | apply below_alloc | apply pw_below_drewN | apply below_drew1 | refine below_set ?_ GE289.out) | exact HB.out)))); have n1_ := Aside0.mk (blk_below (g := gb289) (o := .cells #[.int .i64 a1_0, .int .i64 a1_1] 24 (0, 0)) (by (with_reducible repeat (first | refine blk_drewN ?_ _ | refine blk_drew ?_ | refine blk_alloc ?_ _)); exact BK289.out) hb); have n2_ := Aside0.mk (below_step (by repeat (first | (with_reducible first | exact HB.out | apply below_alloc | apply pw_below_drewN | apply below_drew1 | refine below_set ?_ GE289.out) | exact HB.out)) hb); clear BK289; clear HB; have HO293 := n0_; have BK289 := n1_; have HB := n2_; clear n0_ n1_ n2_; (try clear hb); (try clear hb2); (try clear hk); (try clear hi); (try clear ho0)))
        have n0_ := Aside0.mk (Kd.R_drew HO293.out)
        have n1_ := Aside0.mk (blk_drew BK289.out)
        have n2_ := Aside0.mk (below_drew1 HB.out)
        clear HO293
        clear BK289
        clear HB
        have HO293 := n0_
        have BK289 := n1_
        have HB := n2_
        clear n0_ n1_ n2_
        obtain ⟨Ao74, co74, eo74⟩ := Kd.R_slice HO293.out
        (first | subst eo74 | (injection eo74 with f1_ f2_ f3_; have f4_ := f1_.symm; have f5_ := f3_.symm; clear f1_ f2_ f3_; subst f4_; subst f5_))
        have q73 : ((l0.length : Int) : Int) ≤ ((t291.length : Int) : Int) := of_decide_eq_true (by first | (with_reducible assumption) | assumption)
        obtain ⟨i073, hi073, _, hsz73, _⟩ := info_parts info36
        have hroom73 : t291.length ≤ co74 := (Kd.R_reads' HO293.out).2.1
        have hC73 : Kd.C k36 _ Ao74 t291.length t291 := (Kd.R_reads' HO293.out).2.2
        have hcut73 := cut_to (P := Try.prog) 22 36 .i64 Try.underlying22 hi073 Ao74 t291.length co74 (l0.length : Int) (of_decide_eq_true (by first | (with_reducible assumption) | assumption)) q73 hroom73
        have hr73 := Kd.C_take (m := ((l0.length : Int) : Int).toNat) hC73 (by omega)
        have hy73 : y294.length = ((l0.length : Int) : Int).toNat := (by rw [Ny294.out, List.length_take]; omega)
        rw [← Ny294.out] at hr73
        rw [← hy73] at hcut73
        have HR297 := Aside0.mk hr73
        have HC297 := Aside0.mk (show y294.length ≤ co74 from by omega)
        clear hr73 hC73 hroom73 hi073 hsz73
        have KY73 := Aside0.mk hy73
        clear hy73
        have KL73 := Aside0.mk (show ((l0.length : Int) : Int).toNat ≤ t291.length from by omega)
        replace q73 := eq_true q73
        refine start_ (n := 11) (S := fun w' => w'.cell? ⟨gb289, 0, none⟩ = some (.int .i64 a1_0) ∧ w'.cell? ⟨gb289, 1, none⟩ = some (.int .i64 a1_1)) (ds := []) (bl 0 11) (by kernel_rfl) rfl rfl ⟨(blk_cell BK289.out 0).trans rfl, (blk_cell BK289.out 1).trans rfl⟩ (fun hHeld => ?_); refine with_tabW quernlaw13_MovesDo.tab5 quernlaw13_MovesDo.bits5 (fun HT_ HW_ => ?_)
        generalize w71.drew = w72 at HO293 BK289 HB HR297 hHeld ⊢
        refine pure_ (i := 0) (N := some 27) (v := ?_) (a' := ?_) (bl 1 11) rfl rfl (any_of HT_.out (by kernel_rfl)) (fun _ _ _ h => h) (Or.inl ⟨by rfl, ?_⟩) ?_ ?_
        rotate_left
        ·intro w'
         go_simp
         with_reducible rfl
        rotate_left
        ·simp only [Act.put, List.setIfInBounds_toArray, List.set_cons_zero, List.set_cons_succ, i64_w, i32_w]
         rfl
        refine pure_ (i := 1) (N := some 28) (v := ?_) (a' := ?_) (bl 2 11) rfl rfl (any_of HT_.out (by kernel_rfl)) (fun _ _ _ h => h) (Or.inl ⟨by rfl, ?_⟩) ?_ ?_
        rotate_left
        ·intro w'
         go_simp
         with_reducible rfl
        rotate_left
        ·simp only [Act.put, List.setIfInBounds_toArray, List.set_cons_zero, List.set_cons_succ, i64_w, i32_w]
         rfl
        refine pure_ (i := 2) (N := some 29) (v := ?_) (a' := ?_) (bl 3 11) rfl rfl (any_of HT_.out (by kernel_rfl)) (fun _ _ _ h => h) (Or.inl ⟨by rfl, ?_⟩) ?_ ?_
        rotate_left
        ·intro w'
         go_simp
         with_reducible rfl
        rotate_left
        ·simp only [Act.put, List.setIfInBounds_toArray, List.set_cons_zero, List.set_cons_succ, i64_w, i32_w]
         rfl
        refine pure_ (i := 3) (N := some 30) (v := ?_) (a' := ?_) (bl 4 11) rfl rfl (any_of HT_.out (by kernel_rfl)) (fun _ _ _ h => h) (Or.inl ⟨by rfl, ?_⟩) ?_ ?_
        rotate_left
        ·intro w'
         go_simp
         with_reducible rfl
        rotate_left
        ·simp only [Act.put, List.setIfInBounds_toArray, List.set_cons_zero, List.set_cons_succ, i64_w, i32_w]
         rfl
        refine take_ (i := 4) (N := some 31) (v := ?_) (a' := ?_) (bl 5 11) rfl rfl (take_ofW HT_.out HW_.out (by kernel_rfl)) (fun _ _ _ h => h) (Or.inl ⟨by rfl, ?_⟩) hHeld ?_ ?_
        rotate_left
        ·rintro w' ⟨s0, s1⟩
         go_simp
         with_reducible rfl
        rotate_left
        ·simp only [Act.put, List.setIfInBounds_toArray, List.set_cons_zero, List.set_cons_succ, i64_w, i32_w]
         rfl
        refine one_ (i := 5) (N := some 32) (bl 6 11) rfl rfl (one_of HT_.out (by kernel_rfl)) (by decide) (fun K hK => ?_)
        refine goes_ Try.func10 (by kernel_rfl) rfl #[.slice Ao74 y294.length co74, .agg #[.int .i64 a1_0, .int .i64 a1_1]] (by rfl) rfl rfl (by (try simp only [List.map_toArray, List.map_cons, List.map_nil]); first | done | rfl | (simp only [List.length_drop, List.length_take]; rfl)) ?_
        with_reducible refine (moves_Order.calls kj3 _ _ y294 a1_0 a1_1 t298 t301 _ ?side1 ?side2 A12.out).mono ?_
        (case side1 => repeat (first | exact (by repeat (first | (with_reducible exact HR297.out) | (with_reducible refine Kd.C_alloc ?_ _) | (with_reducible refine Kd.C_drewN ?_ _) | (with_reducible refine Kd.C_drew ?_) | exact HR297.out)) | (with_reducible refine Kd.C_alloc ?_ _) | (with_reducible refine Kd.C_drewN ?_ _) | (with_reducible refine Kd.C_drew ?_)))
        (case side2 => exact HC297.out)
        rintro e w75 ⟨v299, rfl, ho0, hb⟩
        refine ⟨_, rfl, ?_⟩
        have n0_ := Aside0.mk (Kd.R_elder' (by (with_reducible repeat (first | apply Kd.R_alloc | apply Kd.R_drewN | apply Kd.R_drew)); exact HO293.out) (Kd.R_base ho0) hb)
        have n1_ := Aside0.mk (Kd.R_lower (Kd.R_new' ho0 (Kd.R_lt (by (with_reducible repeat (first | apply Kd.R_alloc | apply Kd.R_drewN | apply Kd.R_drew)); exact HO293.out))) (below_size (by repeat (first | (with_reducible first | exact HB.out | apply below_alloc | apply pw_below_drewN | apply below_drew1 | refine below_set ?_ GE289.out) | exact HB.out))))
        have n2_ := Aside0.mk (blk_below (g := gb289) (o := .cells #[.int .i64 a1_0, .int .i64 a1_1] 24 (0, 0)) (by (with_reducible repeat (first | refine blk_drewN ?_ _ | refine blk_drew ?_ | refine blk_alloc ?_ _)); exact BK289.out) hb)
        have n3_ := Aside0.mk (Kd.C_below (by repeat (first | (with_reducible exact HR297.out) | (with_reducible refine Kd.C_alloc ?_ _) | (with_reducible refine Kd.C_drewN ?_ _) | (with_reducible refine Kd.C_drew ?_) | exact HR297.out)) hb)
        have n4_ := Aside0.mk (below_step (by repeat (first | (with_reducible first | exact HB.out | apply below_alloc | apply pw_below_drewN | apply below_drew1 | refine below_set ?_ GE289.out) | exact HB.out)) hb)
        clear HO293
        clear BK289
        clear HR297
        clear HB
        have HO293 := n0_
        have HO300 := n1_
        have BK289 := n2_
        have HR297 := n3_
        have HB := n4_
        clear n0_ n1_ n2_ n3_ n4_
        (try clear hb)
        (try clear hb2)
        (try clear hk)
        (try clear hi)
        (try clear ho0)
        refine hK.out _ _ ⟨(blk_cell BK289.out 0).trans rfl, (blk_cell BK289.out 1).trans rfl⟩ (fun hHeld => ?_)
        clear hK K
        refine norm_ (a' := ?_) ?_ ?_
        rotate_left
        ·show Act.put _ (some 32) _ = _
         simp only [Act.put, List.setIfInBounds_toArray, List.set_cons_zero, List.set_cons_succ, i64_w, i32_w]
         rfl
        refine pure_ (i := 6) (N := some 26) (v := ?_) (a' := ?_) (bl 7 11) rfl rfl (any_of HT_.out (by kernel_rfl)) (fun _ _ _ h => h) (Or.inl ⟨by rfl, ?_⟩) ?_ ?_
        rotate_left
        ·intro w'
         go_simp
         with_reducible rfl
        rotate_left
        ·simp only [Act.put, List.setIfInBounds_toArray, List.set_cons_zero, List.set_cons_succ, i64_w, i32_w]
         rfl
        refine pure_ (i := 7) (N := some 33) (v := ?_) (a' := ?_) (bl 8 11) rfl rfl (any_of HT_.out (by kernel_rfl)) (fun _ _ _ h => h) (Or.inl ⟨by rfl, ?_⟩) ?_ ?_
        rotate_left
        ·intro w'
         go_simp
         with_reducible rfl
        rotate_left
        ·simp only [Act.put, List.setIfInBounds_toArray, List.set_cons_zero, List.set_cons_succ, i64_w, i32_w]
         rfl
        refine pure_ (i := 8) (N := some 34) (v := ?_) (a' := ?_) (bl 9 11) rfl rfl (any_of HT_.out (by kernel_rfl)) (fun _ _ _ h => h) (Or.inl ⟨by rfl, ?_⟩) ?_ ?_
        rotate_left
        ·intro w'
         go_simp
         with_reducible rfl
        rotate_left
        ·simp only [Act.put, List.setIfInBounds_toArray, List.set_cons_zero, List.set_cons_succ, i64_w, i32_w]
         rfl
        refine pure_ (i := 9) (N := some 7) (v := ?_) (a' := ?_) (bl 10 11) rfl rfl (any_of HT_.out (by kernel_rfl)) (fun _ _ _ h => h) (Or.inl ⟨by rfl, ?_⟩) ?_ ?_
        rotate_left
        ·intro w'
         go_simp
         with_reducible rfl
        rotate_left
        ·simp only [Act.put, List.setIfInBounds_toArray, List.set_cons_zero, List.set_cons_succ, i64_w, i32_w]
         rfl
        refine pure_ (i := 10) (N := some 8) (v := ?_) (a' := ?_) (bl 11 11) rfl rfl (any_of HT_.out (by kernel_rfl)) (fun _ _ _ h => h) (Or.inl ⟨by rfl, ?_⟩) ?_ ?_
        rotate_left
        ·intro w'
         go_simp
         with_reducible rfl
        rotate_left
        ·simp only [Act.put, List.setIfInBounds_toArray, List.set_cons_zero, List.set_cons_succ, i64_w, i32_w]
         rfl
        refine done_ (done_of HT_.out (by kernel_rfl)) ?_
        have hcz76_0 : w75.cell? ⟨gb289, 0, none⟩ = some (.int .i64 a1_0) := (blk_cell BK289.out 0).trans rfl
        have hcz76_1 : w75.cell? ⟨gb289, 1, none⟩ = some (.int .i64 a1_1) := (blk_cell BK289.out 1).trans rfl
        have hfz76_0 := blk_frozen BK289.out 0
        have hfz76_1 := blk_frozen BK289.out 1
        try go_wp2_with (first | ((with_reducible refine gate_callee (f := 14) rfl ?_); refine goesL_ (some 37) rfl rfl Try.func14 (by kernel_rfl) rfl #[.slice A0 l0.length c0, .agg #[.int .i64 a1_0, .int .i64 a1_1]] rfl (by (try simp only [List.map_toArray, List.map_cons, List.map_nil]); first | done | rfl | (simp only [List.length_drop, List.length_take]; rfl)) ?_; (with_reducible refine (quernlaw13_right.calls kj3 _ _ l0 a1_0 a1_1 false _ ?side1 ?side2 A13.out).mono ?_); (case side1 => repeat (first | exact (Kd.C_below HR0.out HB.out) | (with_reducible refine Kd.C_alloc ?_ _) | (with_reducible refine Kd.C_drewN ?_ _) | (with_reducible refine Kd.C_drew ?_))); (case side2 => exact HC0.out); rintro e w77 ⟨rfl, hb⟩; refine ⟨_, rfl, ?_⟩; have n0_ := Aside0.mk (Kd.R_below (by (with_reducible repeat (first | apply Kd.R_alloc | apply Kd.R_drewN | apply Kd.R_drew)); exact HO293.out) hb); have n1_ := Aside0.mk (Kd.R_below (by (with_reducible repeat (first | apply Kd.R_alloc | apply Kd.R_drewN | apply Kd.R_drew)); exact HO300.out) hb); have n2_ := Aside0.mk (blk_below (g := gb289) (o := .cells #[.int .i64 a1_0, .int .i64 a1_1] 24 (0, 0)) (by (with_reducible repeat (first | refine blk_drewN ?_ _ | refine blk_drew ?_ | refine blk_alloc ?_ _)); exact BK289.out) hb); have n3_ := Aside0.mk (Kd.C_below (by repeat (first | (with_reducible exact HR297.out) | (with_reducible refine Kd.C_alloc ?_ _) | (with_reducible refine Kd.C_drewN ?_ _) | (with_reducible refine Kd.C_drew ?_) | exact HR297.out)) hb); have n4_ := Aside0.mk (below_step (by repeat (first | (with_reducible first | exact HB.out | apply below_alloc | apply pw_below_drewN | apply below_drew1 | refine below_set ?_ GE289.out) | exact HB.out)) hb); clear HO293; clear HO300; clear BK289; clear HR297; clear HB; have HO293 := n0_; have HO300 := n1_; have BK289 := n2_; have HR297 := n3_; have HB := n4_; clear n0_ n1_ n2_ n3_ n4_; (try clear hb); (try clear hb2); (try clear hk); (try clear hi)))
        go_ret
        exact ⟨by first | rfl | (simp [errW_none, errW_some] <;> rfl) | (simp [*, errW_none, errW_some] <;> rfl), by repeat (first | (with_reducible first | exact HB.out | apply below_alloc | apply pw_below_drewN | apply below_drew1 | refine below_set ?_ GE289.out) | exact HB.out)⟩
       ·rw [if_neg c70] at H
        have c70b0 : (t301 == 0) = false := beq_eq_false_iff_ne.mpr c70
        have c70b1 : (t301 != 0) = true := bne_iff_ne.mpr c70
        obtain rfl := Option.some.inj H
        try go_wp2_with (first | ((with_reducible refine gate_callee (f := 9) rfl ?_); refine goesL_ (some 25) rfl rfl Try.func9 (by kernel_rfl) rfl #[.slice A0 l0.length c0] rfl (by (try simp only [List.map_toArray, List.map_cons, List.map_nil]); first | done | rfl | (simp only [List.length_drop, List.length_take]; rfl)) ?_; (with_reducible refine (quernlaw13_lent.calls _ _ l0 t291 _ ?side1 ?side2 A9.out).mono ?_); (case side1 => repeat (first | exact (Kd.C_below HR0.out HB.out) | (with_reducible refine Kd.C_alloc ?_ _) | (with_reducible refine Kd.C_drewN ?_ _) | (with_reducible refine Kd.C_drew ?_))); (case side2 => exact HC0.out); rintro e w78 ⟨v292, rfl, ho0, hb⟩; refine ⟨_, rfl, ?_⟩; have n0_ := Aside0.mk (Kd.R_lower ho0 (below_size (by repeat (first | (with_reducible first | exact HB.out | apply below_alloc | apply pw_below_drewN | apply below_drew1 | refine below_set ?_ GE289.out) | exact HB.out)))); have n1_ := Aside0.mk (blk_below (g := gb289) (o := .cells #[.int .i64 a1_0, .int .i64 a1_1] 24 (0, 0)) (by (with_reducible repeat (first | refine blk_drewN ?_ _ | refine blk_drew ?_ | refine blk_alloc ?_ _)); exact BK289.out) hb); have n2_ := Aside0.mk (below_step (by repeat (first | (with_reducible first | exact HB.out | apply below_alloc | apply pw_below_drewN | apply below_drew1 | refine below_set ?_ GE289.out) | exact HB.out)) hb); clear BK289; clear HB; have HO293 := n0_; have BK289 := n1_; have HB := n2_; clear n0_ n1_ n2_; (try clear hb); (try clear hb2); (try clear hk); (try clear hi); (try clear ho0)))
        have n0_ := Aside0.mk (Kd.R_drew HO293.out)
        have n1_ := Aside0.mk (blk_drew BK289.out)
        have n2_ := Aside0.mk (below_drew1 HB.out)
        clear HO293
        clear BK289
        clear HB
        have HO293 := n0_
        have BK289 := n1_
        have HB := n2_
        clear n0_ n1_ n2_
        obtain ⟨Ao81, co81, eo81⟩ := Kd.R_slice HO293.out
        (first | subst eo81 | (injection eo81 with f1_ f2_ f3_; have f4_ := f1_.symm; have f5_ := f3_.symm; clear f1_ f2_ f3_; subst f4_; subst f5_))
        have q80 : ((l0.length : Int) : Int) ≤ ((t291.length : Int) : Int) := of_decide_eq_true (by first | (with_reducible assumption) | assumption)
        obtain ⟨i080, hi080, _, hsz80, _⟩ := info_parts info36
        have hroom80 : t291.length ≤ co81 := (Kd.R_reads' HO293.out).2.1
        have hC80 : Kd.C k36 _ Ao81 t291.length t291 := (Kd.R_reads' HO293.out).2.2
        have hcut80 := cut_to (P := Try.prog) 22 36 .i64 Try.underlying22 hi080 Ao81 t291.length co81 (l0.length : Int) (of_decide_eq_true (by first | (with_reducible assumption) | assumption)) q80 hroom80
        have hr80 := Kd.C_take (m := ((l0.length : Int) : Int).toNat) hC80 (by omega)
        have hy80 : y294.length = ((l0.length : Int) : Int).toNat := (by rw [Ny294.out, List.length_take]; omega)
        rw [← Ny294.out] at hr80
        rw [← hy80] at hcut80
        have HR297 := Aside0.mk hr80
        have HC297 := Aside0.mk (show y294.length ≤ co81 from by omega)
        clear hr80 hC80 hroom80 hi080 hsz80
        have KY80 := Aside0.mk hy80
        clear hy80
        have KL80 := Aside0.mk (show ((l0.length : Int) : Int).toNat ≤ t291.length from by omega)
        replace q80 := eq_true q80
        refine start_ (n := 11) (S := fun w' => w'.cell? ⟨gb289, 0, none⟩ = some (.int .i64 a1_0) ∧ w'.cell? ⟨gb289, 1, none⟩ = some (.int .i64 a1_1)) (ds := []) (bl 0 11) (by kernel_rfl) rfl rfl ⟨(blk_cell BK289.out 0).trans rfl, (blk_cell BK289.out 1).trans rfl⟩ (fun hHeld => ?_); refine with_tabW quernlaw13_MovesDo.tab5 quernlaw13_MovesDo.bits5 (fun HT_ HW_ => ?_)
        generalize w78.drew = w79 at HO293 BK289 HB HR297 hHeld ⊢
        refine pure_ (i := 0) (N := some 27) (v := ?_) (a' := ?_) (bl 1 11) rfl rfl (any_of HT_.out (by kernel_rfl)) (fun _ _ _ h => h) (Or.inl ⟨by rfl, ?_⟩) ?_ ?_
        rotate_left
        ·intro w'
         go_simp
         with_reducible rfl
        rotate_left
        ·simp only [Act.put, List.setIfInBounds_toArray, List.set_cons_zero, List.set_cons_succ, i64_w, i32_w]
         rfl
        refine pure_ (i := 1) (N := some 28) (v := ?_) (a' := ?_) (bl 2 11) rfl rfl (any_of HT_.out (by kernel_rfl)) (fun _ _ _ h => h) (Or.inl ⟨by rfl, ?_⟩) ?_ ?_
        rotate_left
        ·intro w'
         go_simp
         with_reducible rfl
        rotate_left
        ·simp only [Act.put, List.setIfInBounds_toArray, List.set_cons_zero, List.set_cons_succ, i64_w, i32_w]
         rfl
        refine pure_ (i := 2) (N := some 29) (v := ?_) (a' := ?_) (bl 3 11) rfl rfl (any_of HT_.out (by kernel_rfl)) (fun _ _ _ h => h) (Or.inl ⟨by rfl, ?_⟩) ?_ ?_
        rotate_left
        ·intro w'
         go_simp
         with_reducible rfl
        rotate_left
        ·simp only [Act.put, List.setIfInBounds_toArray, List.set_cons_zero, List.set_cons_succ, i64_w, i32_w]
         rfl
        refine pure_ (i := 3) (N := some 30) (v := ?_) (a' := ?_) (bl 4 11) rfl rfl (any_of HT_.out (by kernel_rfl)) (fun _ _ _ h => h) (Or.inl ⟨by rfl, ?_⟩) ?_ ?_
        rotate_left
        ·intro w'
         go_simp
         with_reducible rfl
        rotate_left
        ·simp only [Act.put, List.setIfInBounds_toArray, List.set_cons_zero, List.set_cons_succ, i64_w, i32_w]
         rfl
        refine take_ (i := 4) (N := some 31) (v := ?_) (a' := ?_) (bl 5 11) rfl rfl (take_ofW HT_.out HW_.out (by kernel_rfl)) (fun _ _ _ h => h) (Or.inl ⟨by rfl, ?_⟩) hHeld ?_ ?_
        rotate_left
        ·rintro w' ⟨s0, s1⟩
         go_simp
         with_reducible rfl
        rotate_left
        ·simp only [Act.put, List.setIfInBounds_toArray, List.set_cons_zero, List.set_cons_succ, i64_w, i32_w]
         rfl
        refine one_ (i := 5) (N := some 32) (bl 6 11) rfl rfl (one_of HT_.out (by kernel_rfl)) (by decide) (fun K hK => ?_)
        refine goes_ Try.func10 (by kernel_rfl) rfl #[.slice Ao81 y294.length co81, .agg #[.int .i64 a1_0, .int .i64 a1_1]] (by rfl) rfl rfl (by (try simp only [List.map_toArray, List.map_cons, List.map_nil]); first | done | rfl | (simp only [List.length_drop, List.length_take]; rfl)) ?_
        with_reducible refine (moves_Order.calls kj3 _ _ y294 a1_0 a1_1 t298 t301 _ ?side1 ?side2 A12.out).mono ?_
        (case side1 => repeat (first | exact (by repeat (first | (with_reducible exact HR297.out) | (with_reducible refine Kd.C_alloc ?_ _) | (with_reducible refine Kd.C_drewN ?_ _) | (with_reducible refine Kd.C_drew ?_) | exact HR297.out)) | (with_reducible refine Kd.C_alloc ?_ _) | (with_reducible refine Kd.C_drewN ?_ _) | (with_reducible refine Kd.C_drew ?_)))
        (case side2 => exact HC297.out)
        rintro e w82 ⟨v299, rfl, ho0, hb⟩
        refine ⟨_, rfl, ?_⟩
        have n0_ := Aside0.mk (Kd.R_elder' (by (with_reducible repeat (first | apply Kd.R_alloc | apply Kd.R_drewN | apply Kd.R_drew)); exact HO293.out) (Kd.R_base ho0) hb)
        have n1_ := Aside0.mk (Kd.R_lower (Kd.R_new' ho0 (Kd.R_lt (by (with_reducible repeat (first | apply Kd.R_alloc | apply Kd.R_drewN | apply Kd.R_drew)); exact HO293.out))) (below_size (by repeat (first | (with_reducible first | exact HB.out | apply below_alloc | apply pw_below_drewN | apply below_drew1 | refine below_set ?_ GE289.out) | exact HB.out))))
        have n2_ := Aside0.mk (blk_below (g := gb289) (o := .cells #[.int .i64 a1_0, .int .i64 a1_1] 24 (0, 0)) (by (with_reducible repeat (first | refine blk_drewN ?_ _ | refine blk_drew ?_ | refine blk_alloc ?_ _)); exact BK289.out) hb)
        have n3_ := Aside0.mk (Kd.C_below (by repeat (first | (with_reducible exact HR297.out) | (with_reducible refine Kd.C_alloc ?_ _) | (with_reducible refine Kd.C_drewN ?_ _) | (with_reducible refine Kd.C_drew ?_) | exact HR297.out)) hb)
        have n4_ := Aside0.mk (below_step (by repeat (first | (with_reducible first | exact HB.out | apply below_alloc | apply pw_below_drewN | apply below_drew1 | refine below_set ?_ GE289.out) | exact HB.out)) hb)
        clear HO293
        clear BK289
        clear HR297
        clear HB
        have HO293 := n0_
        have HO300 := n1_
        have BK289 := n2_
        have HR297 := n3_
        have HB := n4_
        clear n0_ n1_ n2_ n3_ n4_
        (try clear hb)
        (try clear hb2)
        (try clear hk)
        (try clear hi)
        (try clear ho0)
        refine hK.out _ _ ⟨(blk_cell BK289.out 0).trans rfl, (blk_cell BK289.out 1).trans rfl⟩ (fun hHeld => ?_)
        clear hK K
        refine norm_ (a' := ?_) ?_ ?_
        rotate_left
        ·show Act.put _ (some 32) _ = _
         simp only [Act.put, List.setIfInBounds_toArray, List.set_cons_zero, List.set_cons_succ, i64_w, i32_w]
         rfl
        refine pure_ (i := 6) (N := some 26) (v := ?_) (a' := ?_) (bl 7 11) rfl rfl (any_of HT_.out (by kernel_rfl)) (fun _ _ _ h => h) (Or.inl ⟨by rfl, ?_⟩) ?_ ?_
        rotate_left
        ·intro w'
         go_simp
         with_reducible rfl
        rotate_left
        ·simp only [Act.put, List.setIfInBounds_toArray, List.set_cons_zero, List.set_cons_succ, i64_w, i32_w]
         rfl
        refine pure_ (i := 7) (N := some 33) (v := ?_) (a' := ?_) (bl 8 11) rfl rfl (any_of HT_.out (by kernel_rfl)) (fun _ _ _ h => h) (Or.inl ⟨by rfl, ?_⟩) ?_ ?_
        rotate_left
        ·intro w'
         go_simp
         with_reducible rfl
        rotate_left
        ·simp only [Act.put, List.setIfInBounds_toArray, List.set_cons_zero, List.set_cons_succ, i64_w, i32_w]
         rfl
        refine pure_ (i := 8) (N := some 34) (v := ?_) (a' := ?_) (bl 9 11) rfl rfl (any_of HT_.out (by kernel_rfl)) (fun _ _ _ h => h) (Or.inl ⟨by rfl, ?_⟩) ?_ ?_
        rotate_left
        ·intro w'
         go_simp
         with_reducible rfl
        rotate_left
        ·simp only [Act.put, List.setIfInBounds_toArray, List.set_cons_zero, List.set_cons_succ, i64_w, i32_w]
         rfl
        refine pure_ (i := 9) (N := some 7) (v := ?_) (a' := ?_) (bl 10 11) rfl rfl (any_of HT_.out (by kernel_rfl)) (fun _ _ _ h => h) (Or.inl ⟨by rfl, ?_⟩) ?_ ?_
        rotate_left
        ·intro w'
         go_simp
         with_reducible rfl
        rotate_left
        ·simp only [Act.put, List.setIfInBounds_toArray, List.set_cons_zero, List.set_cons_succ, i64_w, i32_w]
         rfl
        refine pure_ (i := 10) (N := some 8) (v := ?_) (a' := ?_) (bl 11 11) rfl rfl (any_of HT_.out (by kernel_rfl)) (fun _ _ _ h => h) (Or.inl ⟨by rfl, ?_⟩) ?_ ?_
        rotate_left
        ·intro w'
         go_simp
         with_reducible rfl
        rotate_left
        ·simp only [Act.put, List.setIfInBounds_toArray, List.set_cons_zero, List.set_cons_succ, i64_w, i32_w]
         rfl
        refine done_ (done_of HT_.out (by kernel_rfl)) ?_
        have hcz83_0 : w82.cell? ⟨gb289, 0, none⟩ = some (.int .i64 a1_0) := (blk_cell BK289.out 0).trans rfl
        have hcz83_1 : w82.cell? ⟨gb289, 1, none⟩ = some (.int .i64 a1_1) := (blk_cell BK289.out 1).trans rfl
        have hfz83_0 := blk_frozen BK289.out 0
        have hfz83_1 := blk_frozen BK289.out 1
        try go_wp2_with (first | ((with_reducible refine gate_callee (f := 14) rfl ?_); refine goesL_ (some 37) rfl rfl Try.func14 (by kernel_rfl) rfl #[.slice A0 l0.length c0, .agg #[.int .i64 a1_0, .int .i64 a1_1]] rfl (by (try simp only [List.map_toArray, List.map_cons, List.map_nil]); first | done | rfl | (simp only [List.length_drop, List.length_take]; rfl)) ?_; (with_reducible refine (quernlaw13_right.calls kj3 _ _ l0 a1_0 a1_1 false _ ?side1 ?side2 A13.out).mono ?_); (case side1 => repeat (first | exact (Kd.C_below HR0.out HB.out) | (with_reducible refine Kd.C_alloc ?_ _) | (with_reducible refine Kd.C_drewN ?_ _) | (with_reducible refine Kd.C_drew ?_))); (case side2 => exact HC0.out); rintro e w84 ⟨rfl, hb⟩; refine ⟨_, rfl, ?_⟩; have n0_ := Aside0.mk (Kd.R_below (by (with_reducible repeat (first | apply Kd.R_alloc | apply Kd.R_drewN | apply Kd.R_drew)); exact HO293.out) hb); have n1_ := Aside0.mk (Kd.R_below (by (with_reducible repeat (first | apply Kd.R_alloc | apply Kd.R_drewN | apply Kd.R_drew)); exact HO300.out) hb); have n2_ := Aside0.mk (blk_below (g := gb289) (o := .cells #[.int .i64 a1_0, .int .i64 a1_1] 24 (0, 0)) (by (with_reducible repeat (first | refine blk_drewN ?_ _ | refine blk_drew ?_ | refine blk_alloc ?_ _)); exact BK289.out) hb); have n3_ := Aside0.mk (Kd.C_below (by repeat (first | (with_reducible exact HR297.out) | (with_reducible refine Kd.C_alloc ?_ _) | (with_reducible refine Kd.C_drewN ?_ _) | (with_reducible refine Kd.C_drew ?_) | exact HR297.out)) hb); have n4_ := Aside0.mk (below_step (by repeat (first | (with_reducible first | exact HB.out | apply below_alloc | apply pw_below_drewN | apply below_drew1 | refine below_set ?_ GE289.out) | exact HB.out)) hb); clear HO293; clear HO300; clear BK289; clear HR297; clear HB; have HO293 := n0_; have HO300 := n1_; have BK289 := n2_; have HR297 := n3_; have HB := n4_; clear n0_ n1_ n2_ n3_ n4_; (try clear hb); (try clear hb2); (try clear hk); (try clear hi); obtain ⟨Ao85, co85, eo85⟩ := Kd.R_slice HO300.out; subst eo85))
        go_ret
        exact ⟨by first | rfl | (simp [errW_none, errW_some] <;> rfl) | (simp [*, errW_none, errW_some] <;> rfl), by repeat (first | (with_reducible first | exact HB.out | apply below_alloc | apply pw_below_drewN | apply below_drew1 | refine below_set ?_ GE289.out) | exact HB.out)⟩
     ·rw [if_neg c11] at H
      exact absurd H (by simp)
    ·rw [if_neg c10] at H
     exact absurd H (by simp)

end Go.Proofs.Ytameoapnhmoleaa.PP
