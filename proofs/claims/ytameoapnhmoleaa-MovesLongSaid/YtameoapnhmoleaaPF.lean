-- Printed by the kit's print.py (turned by patchprint.py, made shorter by squeeze.py, mine). Not trusted: Lean checks it.
import Derived.Test.YtameoapnhmoleaaPA
import Derived.Test.YtameoapnhmoleaaPI
import Derived.Test.YtameoapnhmoleaaPP3
namespace Go.Proofs.Ytameoapnhmoleaa.PP
open Go.RowKit Go.Proofs.YtameoapnhmoleaaW.PrintWords Go.Proofs.YtameoapnhmoleaaW.PrintLast Go.Proofs.YtameoapnhmoleaaW.PrintMore
attribute [local go_sem] max2_int min2_int max_two min_two max_three min_three max_four min_four   -- for this text's walks alone
set_option linter.unusedVariables false
set_option linter.unusedSimpArgs false
/-! ### quernlaw13_MovesLong: function 6 -/
mutual
def quernlaw13_MovesLong.j0 : Nat → Int → Int → Bool → Bool → Option (Bool)
 | 0, _, _, _, _ => none
 | k + 1, x0, x1, x5, x26 => if x26 = true then (some x5) else (quernlaw13_MovesLong.l0 k x0 x1 x5 ([] : List (S36)) 0)
def quernlaw13_MovesLong.l0 : Nat → Int → Int → Bool → List (S36) → Int → Option (Bool)
 | 0, _, _, _, _, _ => none
 | k + 1, x0, x1, x5, x6, x7 => if x7 < x0 then (if (Go.bits .and .i64 x1 1) = 1 then (quernlaw13_MovesLong.j2 k x0 x1 x5 x6 x7 (wrap64 ((wrap64 (x0 - 1)) - x7))) else (quernlaw13_MovesLong.j2 k x0 x1 x5 x6 x7 x7)) else ((moves_Order.f k x6 2 3).bind fun bt363 => (if (Go.bits .and .i64 x1 2) = 2 then (quernlaw13_MovesLong.j4 k x0 x1 x5 bt363.1 bt363.2 (wrap64 (x0 + 1))) else (quernlaw13_MovesLong.j4 k x0 x1 x5 bt363.1 bt363.2 x0)))
def quernlaw13_MovesLong.j2 : Nat → Int → Int → Bool → List (S36) → Int → Int → Option (Bool)
 | 0, _, _, _, _, _, _ => none
 | k + 1, x0, x1, x5, x6, x7, x8 => if (Go.bits .and .i64 x1 2) = 2 then (quernlaw13_MovesLong.j3 k x0 x1 x5 x6 x7 x8 (wrap64 (x8 + 1)) ((wrap64 (x8 + 1)) == x0)) else (quernlaw13_MovesLong.j3 k x0 x1 x5 x6 x7 x8 (wrap64 (x8 + 1)) false)
def quernlaw13_MovesLong.j3 : Nat → Int → Int → Bool → List (S36) → Int → Int → Int → Bool → Option (Bool)
 | 0, _, _, _, _, _, _, _, _ => none
 | k + 1, x0, x1, x5, x6, x7, x8, x9, x50 => if x50 = true then ((quernlaw13_reg.f x8).bind fun bt349 => ((quernlaw13_reg.f 0).bind fun bt351 => (if x6.length < 4398046511104 then (quernlaw13_MovesLong.l0 k x0 x1 x5 (x6 ++ [(⟨(⟨bt349.1, bt349.2⟩ : S24), (⟨bt351.1, bt351.2⟩ : S24)⟩ : S36)]) (wrap64 (x7 + 1))) else (none)))) else ((quernlaw13_reg.f x8).bind fun bt356 => ((quernlaw13_reg.f x9).bind fun bt358 => (if x6.length < 4398046511104 then (quernlaw13_MovesLong.l0 k x0 x1 x5 (x6 ++ [(⟨(⟨bt356.1, bt356.2⟩ : S24), (⟨bt358.1, bt358.2⟩ : S24)⟩ : S36)]) (wrap64 (x7 + 1))) else (none))))
def quernlaw13_MovesLong.j4 : Nat → Int → Int → Bool → List (S36) → Int → Int → Option (Bool)
 | 0, _, _, _, _, _, _ => none
 | k + 1, x0, x1, x5, x10, x11, x12 => if x11 = 0 then (quernlaw13_MovesLong.j5 k x0 x1 x5 x10 ((x10.length : Int) != x12)) else (quernlaw13_MovesLong.j5 k x0 x1 x5 x10 true)
def quernlaw13_MovesLong.j5 : Nat → Int → Int → Bool → List (S36) → Bool → Option (Bool)
 | 0, _, _, _, _, _ => none
 | k + 1, x0, x1, x5, x10, x78 => if x78 = true then (some false) else (if 0 ≤ (wrap64 (x0 + 2)) then (if (wrap64 (x0 + 2) : Int).toNat ≤ 35184372088832 then (quernlaw13_MovesLong.l1 k x0 x1 x5 x10 (List.replicate (wrap64 (x0 + 2) : Int).toNat 0) 0) else (none)) else (none))
def quernlaw13_MovesLong.l1 : Nat → Int → Int → Bool → List (S36) → List Int → Int → Option (Bool)
 | 0, _, _, _, _, _, _ => none
 | k + 1, x0, x1, x5, x10, x13, x14 => if x14 < (x13.length : Int) then (if 0 ≤ x14 then (quernlaw13_MovesLong.l1 k x0 x1 x5 x10 (x13.set (x14 : Int).toNat x14) (wrap64 (x14 + 1))) else (none)) else (quernlaw13_MovesLong.l2 k x0 x1 x5 x10 x13 0)
def quernlaw13_MovesLong.l2 : Nat → Int → Int → Bool → List (S36) → List Int → Int → Option (Bool)
 | 0, _, _, _, _, _, _ => none
 | k + 1, x0, x1, x5, x10, x13, x15 => if x15 < (x10.length : Int) then (if 0 ≤ x15 then ((quernlaw13_place.f ((rd_T36 x10 x15).f1.f0) ((rd_T36 x10 x15).f1.f1) x0).bind fun t372 => ((quernlaw13_place.f ((rd_T36 x10 x15).f0.f0) ((rd_T36 x10 x15).f0.f1) x0).bind fun t374 => (if t372 < 0 then (some false) else (if t374 < 0 then (some false) else (if 0 ≤ t372 then (if t372 < (x13.length : Int) then (if 0 ≤ t374 then (if t374 < (x13.length : Int) then (quernlaw13_MovesLong.l2 k x0 x1 x5 x10 (x13.set (t374 : Int).toNat (rd x13 t372)) (wrap64 (x15 + 1))) else (none)) else (none)) else (none)) else (none)))))) else (none)) else (quernlaw13_MovesLong.l3 k x0 x1 x5 x13 0)
def quernlaw13_MovesLong.l3 : Nat → Int → Int → Bool → List Int → Int → Option (Bool)
 | 0, _, _, _, _, _ => none
 | k + 1, x0, x1, x5, x13, x18 => if x18 < x0 then (if (Go.bits .and .i64 x1 2) = 2 then (quernlaw13_MovesLong.j9 k x0 x1 x5 x13 x18 (wrap64 (x18 + 1)) ((wrap64 (x18 + 1)) == x0)) else (quernlaw13_MovesLong.j9 k x0 x1 x5 x13 x18 (wrap64 (x18 + 1)) false)) else (some x5)
def quernlaw13_MovesLong.j9 : Nat → Int → Int → Bool → List Int → Int → Int → Bool → Option (Bool)
 | 0, _, _, _, _, _, _, _ => none
 | k + 1, x0, x1, x5, x13, x18, x19, x139 => if x139 = true then (if 0 ≤ x18 then (if x18 < (x13.length : Int) then (if (rd x13 x18) = 0 then (quernlaw13_MovesLong.l3 k x0 x1 x5 x13 (wrap64 (x18 + 1))) else (some false)) else (none)) else (none)) else (if 0 ≤ x18 then (if x18 < (x13.length : Int) then (if (rd x13 x18) = x19 then (quernlaw13_MovesLong.l3 k x0 x1 x5 x13 (wrap64 (x18 + 1))) else (some false)) else (none)) else (none))
end
def quernlaw13_MovesLong.f (k : Nat) (a0 : Int) (a1 : Int) : Option (Bool) := (quernlaw13_alive.f k).bind fun t348 => (if a0 < 2 then (quernlaw13_MovesLong.j0 k a0 a1 t348 true) else (quernlaw13_MovesLong.j0 k a0 a1 t348 (decide (a0 > 1000))))
theorem quernlaw13_MovesLong.mono_l : ∀ k, (∀ y0 y1 y2 y3, LeO (quernlaw13_MovesLong.j0 k y0 y1 y2 y3) (quernlaw13_MovesLong.j0 (k + 1) y0 y1 y2 y3)) ∧ (∀ y0 y1 y2 y3 y4, LeO (quernlaw13_MovesLong.l0 k y0 y1 y2 y3 y4) (quernlaw13_MovesLong.l0 (k + 1) y0 y1 y2 y3 y4)) ∧ (∀ y0 y1 y2 y3 y4 y5, LeO (quernlaw13_MovesLong.j2 k y0 y1 y2 y3 y4 y5) (quernlaw13_MovesLong.j2 (k + 1) y0 y1 y2 y3 y4 y5)) ∧ (∀ y0 y1 y2 y3 y4 y5 y6 y7, LeO (quernlaw13_MovesLong.j3 k y0 y1 y2 y3 y4 y5 y6 y7) (quernlaw13_MovesLong.j3 (k + 1) y0 y1 y2 y3 y4 y5 y6 y7)) ∧ (∀ y0 y1 y2 y3 y4 y5, LeO (quernlaw13_MovesLong.j4 k y0 y1 y2 y3 y4 y5) (quernlaw13_MovesLong.j4 (k + 1) y0 y1 y2 y3 y4 y5)) ∧ (∀ y0 y1 y2 y3 y4, LeO (quernlaw13_MovesLong.j5 k y0 y1 y2 y3 y4) (quernlaw13_MovesLong.j5 (k + 1) y0 y1 y2 y3 y4)) ∧ (∀ y0 y1 y2 y3 y4 y5, LeO (quernlaw13_MovesLong.l1 k y0 y1 y2 y3 y4 y5) (quernlaw13_MovesLong.l1 (k + 1) y0 y1 y2 y3 y4 y5)) ∧ (∀ y0 y1 y2 y3 y4 y5, LeO (quernlaw13_MovesLong.l2 k y0 y1 y2 y3 y4 y5) (quernlaw13_MovesLong.l2 (k + 1) y0 y1 y2 y3 y4 y5)) ∧ (∀ y0 y1 y2 y3 y4, LeO (quernlaw13_MovesLong.l3 k y0 y1 y2 y3 y4) (quernlaw13_MovesLong.l3 (k + 1) y0 y1 y2 y3 y4)) ∧ (∀ y0 y1 y2 y3 y4 y5 y6, LeO (quernlaw13_MovesLong.j9 k y0 y1 y2 y3 y4 y5 y6) (quernlaw13_MovesLong.j9 (k + 1) y0 y1 y2 y3 y4 y5 y6))
 | 0 => ⟨fun _ _ _ _ r h => by simp [quernlaw13_MovesLong.j0] at h, fun _ _ _ _ _ r h => by simp [quernlaw13_MovesLong.l0] at h, fun _ _ _ _ _ _ r h => by simp [quernlaw13_MovesLong.j2] at h, fun _ _ _ _ _ _ _ _ r h => by simp [quernlaw13_MovesLong.j3] at h, fun _ _ _ _ _ _ r h => by simp [quernlaw13_MovesLong.j4] at h, fun _ _ _ _ _ r h => by simp [quernlaw13_MovesLong.j5] at h, fun _ _ _ _ _ _ r h => by simp [quernlaw13_MovesLong.l1] at h, fun _ _ _ _ _ _ r h => by simp [quernlaw13_MovesLong.l2] at h, fun _ _ _ _ _ r h => by simp [quernlaw13_MovesLong.l3] at h, fun _ _ _ _ _ _ _ r h => by simp [quernlaw13_MovesLong.j9] at h⟩
 | k + 1 => by
  obtain ⟨ih0, ih1, ih2, ih3, ih4, ih5, ih6, ih7, ih8, ih9⟩ := quernlaw13_MovesLong.mono_l k
  refine ⟨?_, ?_, ?_, ?_, ?_, ?_, ?_, ?_, ?_, ?_⟩
  ·intro y0 y1 y2 y3
   unfold quernlaw13_MovesLong.j0
   repeat' first
   | (with_reducible exact ih0 _ _ _ _)
   | (with_reducible exact ih1 _ _ _ _ _)
   | (with_reducible exact ih2 _ _ _ _ _ _)
   | (with_reducible exact ih3 _ _ _ _ _ _ _ _)
   | (with_reducible exact ih4 _ _ _ _ _ _)
   | (with_reducible exact ih5 _ _ _ _ _)
   | (with_reducible exact ih6 _ _ _ _ _ _)
   | (with_reducible exact ih7 _ _ _ _ _ _)
   | (with_reducible exact ih8 _ _ _ _ _)
   | (with_reducible exact ih9 _ _ _ _ _ _ _)
   | (with_reducible exact moves_Order.mono _ _ _ _)
   | (with_reducible exact quernlaw13_alive.mono _)
   | (with_reducible exact LeO.refl _)
   | (with_reducible exact LeO.none _)
   | (with_reducible refine LeO.ite ?_ ?_)
   | (with_reducible refine LeO.bind ?_ (fun _ => ?_))
   | exact ih0 _ _ _ _
   | exact ih1 _ _ _ _ _
   | exact ih2 _ _ _ _ _ _
   | exact ih3 _ _ _ _ _ _ _ _
   | exact ih4 _ _ _ _ _ _
   | exact ih5 _ _ _ _ _
   | exact ih6 _ _ _ _ _ _
   | exact ih7 _ _ _ _ _ _
   | exact ih8 _ _ _ _ _
   | exact ih9 _ _ _ _ _ _ _
   | exact moves_Order.mono _ _ _ _
   | exact quernlaw13_alive.mono _
   | exact LeO.none _
   | refine LeO.ite ?_ ?_
   | refine LeO.bind ?_ (fun _ => ?_)
  ·intro y0 y1 y2 y3 y4
   unfold quernlaw13_MovesLong.l0
   repeat' first
   | (with_reducible exact ih0 _ _ _ _)
   | (with_reducible exact ih1 _ _ _ _ _)
   | (with_reducible exact ih2 _ _ _ _ _ _)
   | (with_reducible exact ih3 _ _ _ _ _ _ _ _)
   | (with_reducible exact ih4 _ _ _ _ _ _)
   | (with_reducible exact ih5 _ _ _ _ _)
   | (with_reducible exact ih6 _ _ _ _ _ _)
   | (with_reducible exact ih7 _ _ _ _ _ _)
   | (with_reducible exact ih8 _ _ _ _ _)
   | (with_reducible exact ih9 _ _ _ _ _ _ _)
   | (with_reducible exact moves_Order.mono _ _ _ _)
   | (with_reducible exact quernlaw13_alive.mono _)
   | (with_reducible exact LeO.refl _)
   | (with_reducible exact LeO.none _)
   | (with_reducible refine LeO.ite ?_ ?_)
   | (with_reducible refine LeO.bind ?_ (fun _ => ?_))
   | exact ih0 _ _ _ _
   | exact ih1 _ _ _ _ _
   | exact ih2 _ _ _ _ _ _
   | exact ih3 _ _ _ _ _ _ _ _
   | exact ih4 _ _ _ _ _ _
   | exact ih5 _ _ _ _ _
   | exact ih6 _ _ _ _ _ _
   | exact ih7 _ _ _ _ _ _
   | exact ih8 _ _ _ _ _
   | exact ih9 _ _ _ _ _ _ _
   | exact moves_Order.mono _ _ _ _
   | exact quernlaw13_alive.mono _
   | exact LeO.none _
   | refine LeO.ite ?_ ?_
   | refine LeO.bind ?_ (fun _ => ?_)
  ·intro y0 y1 y2 y3 y4 y5
   unfold quernlaw13_MovesLong.j2
   repeat' first
   | (with_reducible exact ih0 _ _ _ _)
   | (with_reducible exact ih1 _ _ _ _ _)
   | (with_reducible exact ih2 _ _ _ _ _ _)
   | (with_reducible exact ih3 _ _ _ _ _ _ _ _)
   | (with_reducible exact ih4 _ _ _ _ _ _)
   | (with_reducible exact ih5 _ _ _ _ _)
   | (with_reducible exact ih6 _ _ _ _ _ _)
   | (with_reducible exact ih7 _ _ _ _ _ _)
   | (with_reducible exact ih8 _ _ _ _ _)
   | (with_reducible exact ih9 _ _ _ _ _ _ _)
   | (with_reducible exact moves_Order.mono _ _ _ _)
   | (with_reducible exact quernlaw13_alive.mono _)
   | (with_reducible exact LeO.refl _)
   | (with_reducible exact LeO.none _)
   | (with_reducible refine LeO.ite ?_ ?_)
   | (with_reducible refine LeO.bind ?_ (fun _ => ?_))
   | exact ih0 _ _ _ _
   | exact ih1 _ _ _ _ _
   | exact ih2 _ _ _ _ _ _
   | exact ih3 _ _ _ _ _ _ _ _
   | exact ih4 _ _ _ _ _ _
   | exact ih5 _ _ _ _ _
   | exact ih6 _ _ _ _ _ _
   | exact ih7 _ _ _ _ _ _
   | exact ih8 _ _ _ _ _
   | exact ih9 _ _ _ _ _ _ _
   | exact moves_Order.mono _ _ _ _
   | exact quernlaw13_alive.mono _
   | exact LeO.none _
   | refine LeO.ite ?_ ?_
   | refine LeO.bind ?_ (fun _ => ?_)
  ·intro y0 y1 y2 y3 y4 y5 y6 y7
   unfold quernlaw13_MovesLong.j3
   repeat' first
   | (with_reducible exact ih0 _ _ _ _)
   | (with_reducible exact ih1 _ _ _ _ _)
   | (with_reducible exact ih2 _ _ _ _ _ _)
   | (with_reducible exact ih3 _ _ _ _ _ _ _ _)
   | (with_reducible exact ih4 _ _ _ _ _ _)
   | (with_reducible exact ih5 _ _ _ _ _)
   | (with_reducible exact ih6 _ _ _ _ _ _)
   | (with_reducible exact ih7 _ _ _ _ _ _)
   | (with_reducible exact ih8 _ _ _ _ _)
   | (with_reducible exact ih9 _ _ _ _ _ _ _)
   | (with_reducible exact moves_Order.mono _ _ _ _)
   | (with_reducible exact quernlaw13_alive.mono _)
   | (with_reducible exact LeO.refl _)
   | (with_reducible exact LeO.none _)
   | (with_reducible refine LeO.ite ?_ ?_)
   | (with_reducible refine LeO.bind ?_ (fun _ => ?_))
   | exact ih0 _ _ _ _
   | exact ih1 _ _ _ _ _
   | exact ih2 _ _ _ _ _ _
   | exact ih3 _ _ _ _ _ _ _ _
   | exact ih4 _ _ _ _ _ _
   | exact ih5 _ _ _ _ _
   | exact ih6 _ _ _ _ _ _
   | exact ih7 _ _ _ _ _ _
   | exact ih8 _ _ _ _ _
   | exact ih9 _ _ _ _ _ _ _
   | exact moves_Order.mono _ _ _ _
   | exact quernlaw13_alive.mono _
   | exact LeO.none _
   | refine LeO.ite ?_ ?_
   | refine LeO.bind ?_ (fun _ => ?_)
  ·intro y0 y1 y2 y3 y4 y5
   unfold quernlaw13_MovesLong.j4
   repeat' first
   | (with_reducible exact ih0 _ _ _ _)
   | (with_reducible exact ih1 _ _ _ _ _)
   | (with_reducible exact ih2 _ _ _ _ _ _)
   | (with_reducible exact ih3 _ _ _ _ _ _ _ _)
   | (with_reducible exact ih4 _ _ _ _ _ _)
   | (with_reducible exact ih5 _ _ _ _ _)
   | (with_reducible exact ih6 _ _ _ _ _ _)
   | (with_reducible exact ih7 _ _ _ _ _ _)
   | (with_reducible exact ih8 _ _ _ _ _)
   | (with_reducible exact ih9 _ _ _ _ _ _ _)
   | (with_reducible exact moves_Order.mono _ _ _ _)
   | (with_reducible exact quernlaw13_alive.mono _)
   | (with_reducible exact LeO.refl _)
   | (with_reducible exact LeO.none _)
   | (with_reducible refine LeO.ite ?_ ?_)
   | (with_reducible refine LeO.bind ?_ (fun _ => ?_))
   | exact ih0 _ _ _ _
   | exact ih1 _ _ _ _ _
   | exact ih2 _ _ _ _ _ _
   | exact ih3 _ _ _ _ _ _ _ _
   | exact ih4 _ _ _ _ _ _
   | exact ih5 _ _ _ _ _
   | exact ih6 _ _ _ _ _ _
   | exact ih7 _ _ _ _ _ _
   | exact ih8 _ _ _ _ _
   | exact ih9 _ _ _ _ _ _ _
   | exact moves_Order.mono _ _ _ _
   | exact quernlaw13_alive.mono _
   | exact LeO.none _
   | refine LeO.ite ?_ ?_
   | refine LeO.bind ?_ (fun _ => ?_)
  ·intro y0 y1 y2 y3 y4
   unfold quernlaw13_MovesLong.j5
   repeat' first
   | (with_reducible exact ih0 _ _ _ _)
   | (with_reducible exact ih1 _ _ _ _ _)
   | (with_reducible exact ih2 _ _ _ _ _ _)
   | (with_reducible exact ih3 _ _ _ _ _ _ _ _)
   | (with_reducible exact ih4 _ _ _ _ _ _)
   | (with_reducible exact ih5 _ _ _ _ _)
   | (with_reducible exact ih6 _ _ _ _ _ _)
   | (with_reducible exact ih7 _ _ _ _ _ _)
   | (with_reducible exact ih8 _ _ _ _ _)
   | (with_reducible exact ih9 _ _ _ _ _ _ _)
   | (with_reducible exact moves_Order.mono _ _ _ _)
   | (with_reducible exact quernlaw13_alive.mono _)
   | (with_reducible exact LeO.refl _)
   | (with_reducible exact LeO.none _)
   | (with_reducible refine LeO.ite ?_ ?_)
   | (with_reducible refine LeO.bind ?_ (fun _ => ?_))
   | exact ih0 _ _ _ _
   | exact ih1 _ _ _ _ _
   | exact ih2 _ _ _ _ _ _
   | exact ih3 _ _ _ _ _ _ _ _
   | exact ih4 _ _ _ _ _ _
   | exact ih5 _ _ _ _ _
   | exact ih6 _ _ _ _ _ _
   | exact ih7 _ _ _ _ _ _
   | exact ih8 _ _ _ _ _
   | exact ih9 _ _ _ _ _ _ _
   | exact moves_Order.mono _ _ _ _
   | exact quernlaw13_alive.mono _
   | exact LeO.none _
   | refine LeO.ite ?_ ?_
   | refine LeO.bind ?_ (fun _ => ?_)
  ·intro y0 y1 y2 y3 y4 y5
   unfold quernlaw13_MovesLong.l1
   repeat' first
   | (with_reducible exact ih0 _ _ _ _)
   | (with_reducible exact ih1 _ _ _ _ _)
   | (with_reducible exact ih2 _ _ _ _ _ _)
   | (with_reducible exact ih3 _ _ _ _ _ _ _ _)
   | (with_reducible exact ih4 _ _ _ _ _ _)
   | (with_reducible exact ih5 _ _ _ _ _)
   | (with_reducible exact ih6 _ _ _ _ _ _)
   | (with_reducible exact ih7 _ _ _ _ _ _)
   | (with_reducible exact ih8 _ _ _ _ _)
   | (with_reducible exact ih9 _ _ _ _ _ _ _)
   | (with_reducible exact moves_Order.mono _ _ _ _)
   | (with_reducible exact quernlaw13_alive.mono _)
   | (with_reducible exact LeO.refl _)
   | (with_reducible exact LeO.none _)
   | (with_reducible refine LeO.ite ?_ ?_)
   | (with_reducible refine LeO.bind ?_ (fun _ => ?_))
   | exact ih0 _ _ _ _
   | exact ih1 _ _ _ _ _
   | exact ih2 _ _ _ _ _ _
   | exact ih3 _ _ _ _ _ _ _ _
   | exact ih4 _ _ _ _ _ _
   | exact ih5 _ _ _ _ _
   | exact ih6 _ _ _ _ _ _
   | exact ih7 _ _ _ _ _ _
   | exact ih8 _ _ _ _ _
   | exact ih9 _ _ _ _ _ _ _
   | exact moves_Order.mono _ _ _ _
   | exact quernlaw13_alive.mono _
   | exact LeO.none _
   | refine LeO.ite ?_ ?_
   | refine LeO.bind ?_ (fun _ => ?_)
  ·intro y0 y1 y2 y3 y4 y5
   unfold quernlaw13_MovesLong.l2
   repeat' first
   | (with_reducible exact ih0 _ _ _ _)
   | (with_reducible exact ih1 _ _ _ _ _)
   | (with_reducible exact ih2 _ _ _ _ _ _)
   | (with_reducible exact ih3 _ _ _ _ _ _ _ _)
   | (with_reducible exact ih4 _ _ _ _ _ _)
   | (with_reducible exact ih5 _ _ _ _ _)
   | (with_reducible exact ih6 _ _ _ _ _ _)
   | (with_reducible exact ih7 _ _ _ _ _ _)
   | (with_reducible exact ih8 _ _ _ _ _)
   | (with_reducible exact ih9 _ _ _ _ _ _ _)
   | (with_reducible exact moves_Order.mono _ _ _ _)
   | (with_reducible exact quernlaw13_alive.mono _)
   | (with_reducible exact LeO.refl _)
   | (with_reducible exact LeO.none _)
   | (with_reducible refine LeO.ite ?_ ?_)
   | (with_reducible refine LeO.bind ?_ (fun _ => ?_))
   | exact ih0 _ _ _ _
   | exact ih1 _ _ _ _ _
   | exact ih2 _ _ _ _ _ _
   | exact ih3 _ _ _ _ _ _ _ _
   | exact ih4 _ _ _ _ _ _
   | exact ih5 _ _ _ _ _
   | exact ih6 _ _ _ _ _ _
   | exact ih7 _ _ _ _ _ _
   | exact ih8 _ _ _ _ _
   | exact ih9 _ _ _ _ _ _ _
   | exact moves_Order.mono _ _ _ _
   | exact quernlaw13_alive.mono _
   | exact LeO.none _
   | refine LeO.ite ?_ ?_
   | refine LeO.bind ?_ (fun _ => ?_)
  ·intro y0 y1 y2 y3 y4
   unfold quernlaw13_MovesLong.l3
   repeat' first
   | (with_reducible exact ih0 _ _ _ _)
   | (with_reducible exact ih1 _ _ _ _ _)
   | (with_reducible exact ih2 _ _ _ _ _ _)
   | (with_reducible exact ih3 _ _ _ _ _ _ _ _)
   | (with_reducible exact ih4 _ _ _ _ _ _)
   | (with_reducible exact ih5 _ _ _ _ _)
   | (with_reducible exact ih6 _ _ _ _ _ _)
   | (with_reducible exact ih7 _ _ _ _ _ _)
   | (with_reducible exact ih8 _ _ _ _ _)
   | (with_reducible exact ih9 _ _ _ _ _ _ _)
   | (with_reducible exact moves_Order.mono _ _ _ _)
   | (with_reducible exact quernlaw13_alive.mono _)
   | (with_reducible exact LeO.refl _)
   | (with_reducible exact LeO.none _)
   | (with_reducible refine LeO.ite ?_ ?_)
   | (with_reducible refine LeO.bind ?_ (fun _ => ?_))
   | exact ih0 _ _ _ _
   | exact ih1 _ _ _ _ _
   | exact ih2 _ _ _ _ _ _
   | exact ih3 _ _ _ _ _ _ _ _
   | exact ih4 _ _ _ _ _ _
   | exact ih5 _ _ _ _ _
   | exact ih6 _ _ _ _ _ _
   | exact ih7 _ _ _ _ _ _
   | exact ih8 _ _ _ _ _
   | exact ih9 _ _ _ _ _ _ _
   | exact moves_Order.mono _ _ _ _
   | exact quernlaw13_alive.mono _
   | exact LeO.none _
   | refine LeO.ite ?_ ?_
   | refine LeO.bind ?_ (fun _ => ?_)
  ·intro y0 y1 y2 y3 y4 y5 y6
   unfold quernlaw13_MovesLong.j9
   repeat' first
   | (with_reducible exact ih0 _ _ _ _)
   | (with_reducible exact ih1 _ _ _ _ _)
   | (with_reducible exact ih2 _ _ _ _ _ _)
   | (with_reducible exact ih3 _ _ _ _ _ _ _ _)
   | (with_reducible exact ih4 _ _ _ _ _ _)
   | (with_reducible exact ih5 _ _ _ _ _)
   | (with_reducible exact ih6 _ _ _ _ _ _)
   | (with_reducible exact ih7 _ _ _ _ _ _)
   | (with_reducible exact ih8 _ _ _ _ _)
   | (with_reducible exact ih9 _ _ _ _ _ _ _)
   | (with_reducible exact moves_Order.mono _ _ _ _)
   | (with_reducible exact quernlaw13_alive.mono _)
   | (with_reducible exact LeO.refl _)
   | (with_reducible exact LeO.none _)
   | (with_reducible refine LeO.ite ?_ ?_)
   | (with_reducible refine LeO.bind ?_ (fun _ => ?_))
   | exact ih0 _ _ _ _
   | exact ih1 _ _ _ _ _
   | exact ih2 _ _ _ _ _ _
   | exact ih3 _ _ _ _ _ _ _ _
   | exact ih4 _ _ _ _ _ _
   | exact ih5 _ _ _ _ _
   | exact ih6 _ _ _ _ _ _
   | exact ih7 _ _ _ _ _ _
   | exact ih8 _ _ _ _ _
   | exact ih9 _ _ _ _ _ _ _
   | exact moves_Order.mono _ _ _ _
   | exact quernlaw13_alive.mono _
   | exact LeO.none _
   | refine LeO.ite ?_ ?_
   | refine LeO.bind ?_ (fun _ => ?_)
theorem quernlaw13_MovesLong.mono : ∀ a0 a1 k, LeO (quernlaw13_MovesLong.f k a0 a1) (quernlaw13_MovesLong.f (k + 1) a0 a1) := by
 intro a0 a1 k
 obtain ⟨ih0, ih1, ih2, ih3, ih4, ih5, ih6, ih7, ih8, ih9⟩ := quernlaw13_MovesLong.mono_l k
 unfold quernlaw13_MovesLong.f
 repeat' first
   | (with_reducible exact ih0 _ _ _ _)
   | (with_reducible exact ih1 _ _ _ _ _)
   | (with_reducible exact ih2 _ _ _ _ _ _)
   | (with_reducible exact ih3 _ _ _ _ _ _ _ _)
   | (with_reducible exact ih4 _ _ _ _ _ _)
   | (with_reducible exact ih5 _ _ _ _ _)
   | (with_reducible exact ih6 _ _ _ _ _ _)
   | (with_reducible exact ih7 _ _ _ _ _ _)
   | (with_reducible exact ih8 _ _ _ _ _)
   | (with_reducible exact ih9 _ _ _ _ _ _ _)
   | (with_reducible exact moves_Order.mono _ _ _ _)
   | (with_reducible exact quernlaw13_alive.mono _)
   | (with_reducible exact LeO.refl _)
   | (with_reducible exact LeO.none _)
   | (with_reducible refine LeO.ite ?_ ?_)
   | (with_reducible refine LeO.bind ?_ (fun _ => ?_))
   | exact ih0 _ _ _ _
   | exact ih1 _ _ _ _ _
   | exact ih2 _ _ _ _ _ _
   | exact ih3 _ _ _ _ _ _ _ _
   | exact ih4 _ _ _ _ _ _
   | exact ih5 _ _ _ _ _
   | exact ih6 _ _ _ _ _ _
   | exact ih7 _ _ _ _ _ _
   | exact ih8 _ _ _ _ _
   | exact ih9 _ _ _ _ _ _ _
   | exact moves_Order.mono _ _ _ _
   | exact quernlaw13_alive.mono _
   | exact LeO.none _
   | refine LeO.ite ?_ ?_
   | refine LeO.bind ?_ (fun _ => ?_)
def quernlaw13_MovesLong.T29 : Bool × List (List Nat × List Nat) := (true, [([], []), ([], []), ([0, 1], [0, 1]), ([2], [2]), ([3], [3]), ([], []), ([4, 5], [4, 5]), ([], []), ([], []), ([7, 8], [7, 8]), ([9], [9]), ([10], [10]), ([], []), ([11, 12, 6], [11, 12]), ([6, 13, 0, 1, 2, 3, 4, 5, 6], [6]), ([13, 14, 0, 1, 2, 3, 4, 5, 6, 7, 8, 9, 10, 11, 12, 13, 14], [13])])
def quernlaw13_MovesLong.B29 : List Nat := [0, 0, 3, 7, 15, 0, 63, 0, 0, 384, 896, 1920, 0, 8191, 16383, 32767]
theorem quernlaw13_MovesLong.tab29 : rtab .any (opsOf Try.f6 29) = quernlaw13_MovesLong.T29 := by kernel_rfl
theorem quernlaw13_MovesLong.bits29 : waitsOk quernlaw13_MovesLong.T29.2 quernlaw13_MovesLong.B29 = true := by kernel_rfl
set_option maxHeartbeats 8000000 in
set_option maxRecDepth 100000 in
theorem quernlaw13_MovesLong.calls (k : Nat) (a0 : Int) (a1 : Int) (r : Bool) (w : World) (h : quernlaw13_MovesLong.f k a0 a1 = some r) :
  Calls Try.prog 6 #[.int .i64 a0, .int .i64 a1] w fun e w' => e = .returned (.bool r) ∧ Below w.heap.size w w' := by
 have hu36 := Try.underlying36
 have hu24 := Try.underlying24
 have HB := Aside0.mk (Below.refl w.heap.size w)
 have H : ((quernlaw13_alive.f k).bind fun t348 => (if a0 < 2 then (quernlaw13_MovesLong.j0 k a0 a1 t348 true) else (quernlaw13_MovesLong.j0 k a0 a1 t348 (decide (a0 > 1000))))) = some r := h
 clear h
 replace H := Option.bind_eq_some_iff.mp H
 obtain ⟨t348, A30, H⟩ := H
 replace H : (if a0 < 2 then (quernlaw13_MovesLong.j0 k a0 a1 t348 true) else (quernlaw13_MovesLong.j0 k a0 a1 t348 (decide (a0 > 1000)))) = some r := H
 have A3 := Aside0.mk A30
 clear A30
 have HC4 := Aside0.mk H
 clear H
 go_enter Try.func6, Try.ntmps6
 go_upto_region 2 with (first | ((with_reducible refine gate_callee (f := 8) rfl ?_); refine goesL_ (some 20) rfl rfl Try.func8 (by kernel_rfl) rfl #[] rfl (by (try simp only [List.map_toArray, List.map_cons, List.map_nil]); first | done | rfl | (simp only [List.length_drop, List.length_take]; rfl)) ?_; (with_reducible refine (quernlaw13_alive.calls k  t348 _ A3.out).mono ?_); rintro e w5 ⟨rfl, hb⟩; refine ⟨_, rfl, ?_⟩; have n0_ := Aside0.mk (below_step (by repeat (first | (with_reducible first | exact HB.out | apply below_alloc | apply pw_below_drewN | apply below_drew1) | exact HB.out)) hb); clear HB; have HB := n0_; clear n0_; (try clear hb); (try clear hb2); (try clear hk); (try clear hi)))
 (try simp only [Act.put, List.setIfInBounds_toArray, List.set_cons_zero, List.set_cons_succ])
 go_cut [26] (fun v26 wc => ∃ (kq : Nat) (x26_3 : Bool), v26 = .bool x26_3 ∧ Aside0 (quernlaw13_MovesLong.j0 kq a0 a1 t348 x26_3 = some r) ∧ Aside0 (kq ≤ k) ∧ Aside0 (Below w.heap.size w wc))
 case first =>
  have H := HC4.out
  clear HC4
  by_cases c6 : a0 < 2
  ·rw [if_pos c6] at H
   have c6b0 : decide (a0 < 2) = true := decide_eq_true c6
   clear c6
   (first | rw [c6b0] | (simp only [i64_w, i32_w]; rw [c6b0]) | skip)
   have H' := Aside0.mk H
   clear H
   go_wp2
   go_meet
   case rel => exact ⟨_, (true), (by first | rfl | (simp; done) | (simp [*]; done)), H', ⟨by first | omega | exact Nat.le_refl _⟩, ⟨by repeat (first | (with_reducible first | exact HB.out | apply below_alloc | apply pw_below_drewN | apply below_drew1) | exact HB.out)⟩⟩
  ·rw [if_neg c6] at H
   have c6b0 : decide (a0 < 2) = false := decide_eq_false c6
   clear c6
   (first | rw [c6b0] | (simp only [i64_w, i32_w]; rw [c6b0]) | skip)
   have H' := Aside0.mk H
   clear H
   go_wp2
   go_meet
   case rel => exact ⟨_, (decide (a0 > 1000)), (by first | rfl | (simp; done) | (simp [*]; done)), H', ⟨by first | omega | exact Nat.le_refl _⟩, ⟨by repeat (first | (with_reducible first | exact HB.out | apply below_alloc | apply pw_below_drewN | apply below_drew1) | exact HB.out)⟩⟩
 case rest =>
  clear HC4
  try clear p2
  try clear c6
  try clear c6b0
  obtain ⟨kq, x26_3, rfl, HA, HJ3, HB⟩ := hcut
  cases kq with
  | zero => exact absurd HA.out (by simp [quernlaw13_MovesLong.j0])
  | succ kj3 =>
   have H := HA.out
   clear HA
   simp only [quernlaw13_MovesLong.j0] at H
   by_cases c7 : x26_3 = true
   ·subst c7
    have H1 : (some t348) = some r := by rw [if_pos rfl] at H; exact H
    clear H
    have H := H1
    clear H1
    obtain rfl := Option.some.inj H
    go_wp2
    go_ret
    exact ⟨by first | rfl | (simp [errW_none, errW_some] <;> rfl) | (simp [*, errW_none, errW_some] <;> rfl), by repeat (first | (with_reducible first | exact HB.out | apply below_alloc | apply pw_below_drewN | apply below_drew1) | exact HB.out)⟩
   ·replace c7 := Bool.eq_false_iff.mpr c7
    subst c7
    have H1 : (quernlaw13_MovesLong.l0 kj3 a0 a1 t348 ([] : List (S36)) 0) = some r := by rw [if_neg (show ¬ (false = true) by decide)] at H; exact H
    clear H
    have H := H1
    clear H1
    have H' := Aside0.mk H
    clear H
    go_wp2
    go_loopg [6, 7] kj3 (fun kq v6 v7 w' => ∃ (x6_2 : List (S36)) (x7_2 : Int), v7 = .int .i64 x7_2 ∧ Aside0 (quernlaw13_MovesLong.l0 kq a0 a1 t348 x6_2 x7_2 = some r) ∧ Aside0 (kq ≤ kj3) ∧ Aside0 (Kd.R k36 36 w' w.heap.size (fun _ => True) v6 x6_2) ∧ Aside0 (Below w.heap.size w w'))
    case atStart => exact ⟨(([] : List (S36))), (0), (by first | rfl | (simp; done) | (simp [*]; done)), H', ⟨Nat.le_refl _⟩, ⟨by first | exact Kd.R_nil _ _ _ _ _ | exact Kd.N_nil _ _ _ _ _ | exact Kd.V_nil _ _ _ _ _ | exact Kd.Q_nil _ _ _ _ _ | exact Kd.S_nil _ _ _ _ _⟩, ⟨by repeat (first | (with_reducible first | exact HB.out | apply below_alloc | apply pw_below_drewN | apply below_drew1) | exact HB.out)⟩⟩
    case round =>
     clear H'
     try clear p2
     try clear c6
     try clear c6b0
     try clear c7
     try clear p2
     obtain ⟨x6_2, x7_2, rfl, HA, HK2, HO_6, HB⟩ := hrel
     cases gk with
     | zero => exact absurd HA.out (by simp [quernlaw13_MovesLong.l0])
     | succ k2 =>
      have H := HA.out
      clear HA
      simp only [quernlaw13_MovesLong.l0] at H
      by_cases c8 : x7_2 < a0
      ·rw [if_pos c8] at H
       have c8b0 : decide (x7_2 < a0) = true := decide_eq_true c8
       clear c8
       have HC9 := Aside0.mk H
       clear H
       go_upto_if 36 with (fail)
       go_cut [8] (fun v8 wc => ∃ (kq : Nat) (x8_8 : Int), v8 = .int .i64 x8_8 ∧ Aside0 (quernlaw13_MovesLong.j2 kq a0 a1 t348 x6_2 x7_2 x8_8 = some r) ∧ Aside0 (kq ≤ k2) ∧ Aside0 (Kd.R k36 36 wc w.heap.size (fun _ => True) u6 x6_2) ∧ Aside0 (Below w.heap.size w wc))
       case first =>
        have H := HC9.out
        clear HC9
        by_cases c10 : (Go.bits .and .i64 a1 1) = 1
        ·rw [if_pos c10] at H
         have c10b0 : ((Go.bits .and .i64 a1 1) == 1) = true := beq_iff_eq.mpr c10
         have c10b1 : ((Go.bits .and .i64 a1 1) != 1) = false := bne_eq_false_iff_eq.mpr c10
         clear c10
         (first | rw [c10b0] | (simp only [i64_w, i32_w]; rw [c10b0]) | skip)
         have H' := Aside0.mk H
         clear H
         go_wp2
         go_meet
         case rel => exact ⟨_, (wrap64 ((wrap64 (a0 - 1)) - x7_2)), (by first | rfl | (simp; done) | (simp [*]; done)), H', ⟨by have := HJ3.out; have := HK2.out; first | omega | exact Nat.le_refl _⟩, ⟨by (with_reducible repeat (first | apply Kd.R_alloc | apply Kd.R_drewN | apply Kd.R_drew)); exact HO_6.out⟩, ⟨by repeat (first | (with_reducible first | exact HB.out | apply below_alloc | apply pw_below_drewN | apply below_drew1) | exact HB.out)⟩⟩
        ·rw [if_neg c10] at H
         have c10b0 : ((Go.bits .and .i64 a1 1) == 1) = false := beq_eq_false_iff_ne.mpr c10
         have c10b1 : ((Go.bits .and .i64 a1 1) != 1) = true := bne_iff_ne.mpr c10
         (first | rw [c10b0] | (simp only [i64_w, i32_w]; rw [c10b0]) | skip)
         have H' := Aside0.mk H
         clear H
         go_wp2
         go_meet
         case rel => exact ⟨_, (x7_2), (by first | rfl | (simp; done) | (simp [*]; done)), H', ⟨by have := HJ3.out; have := HK2.out; first | omega | exact Nat.le_refl _⟩, ⟨by (with_reducible repeat (first | apply Kd.R_alloc | apply Kd.R_drewN | apply Kd.R_drew)); exact HO_6.out⟩, ⟨by repeat (first | (with_reducible first | exact HB.out | apply below_alloc | apply pw_below_drewN | apply below_drew1) | exact HB.out)⟩⟩
       case rest =>
        clear HC9
        try clear c1
        try clear p2
        try clear c6
        try clear c6b0
        try clear p6
        try clear c7
        try clear c8
        try clear c8b0
        try clear c10
        try clear c10b0
        try clear c10b1
        try clear p2
        obtain ⟨kq, x8_8, rfl, HA, HJ8, HO_6, HB⟩ := hcut
        cases kq with
        | zero => exact absurd HA.out (by simp [quernlaw13_MovesLong.j2])
        | succ kj8 =>
         have H := HA.out
         clear HA
         simp only [quernlaw13_MovesLong.j2] at H
         have HC11 := Aside0.mk H
         clear H
         go_upto_region 12 with (fail)
         go_cut [50] (fun v50 wc => ∃ (kq : Nat) (x50_10 : Bool), v50 = .bool x50_10 ∧ Aside0 (quernlaw13_MovesLong.j3 kq a0 a1 t348 x6_2 x7_2 x8_8 (wrap64 (x8_8 + 1)) x50_10 = some r) ∧ Aside0 (kq ≤ kj8) ∧ Aside0 (Kd.R k36 36 wc w.heap.size (fun _ => True) u6 x6_2) ∧ Aside0 (Below w.heap.size w wc))
         case first =>
          have H := HC11.out
          clear HC11
          by_cases c12 : (Go.bits .and .i64 a1 2) = 2
          ·rw [if_pos c12] at H
           have c12b0 : ((Go.bits .and .i64 a1 2) == 2) = true := beq_iff_eq.mpr c12
           have c12b1 : ((Go.bits .and .i64 a1 2) != 2) = false := bne_eq_false_iff_eq.mpr c12
           clear c12
           (first | rw [c12b0] | (simp only [i64_w, i32_w]; rw [c12b0]) | skip)
           have H' := Aside0.mk H
           clear H
           go_wp2
           go_meet
           case rel => exact ⟨_, (((wrap64 (x8_8 + 1)) == a0)), (by first | rfl | (simp; done) | (simp [*]; done)), H', ⟨by have := HJ3.out; have := HK2.out; have := HJ8.out; first | omega | exact Nat.le_refl _⟩, ⟨by (with_reducible repeat (first | apply Kd.R_alloc | apply Kd.R_drewN | apply Kd.R_drew)); exact HO_6.out⟩, ⟨by repeat (first | (with_reducible first | exact HB.out | apply below_alloc | apply pw_below_drewN | apply below_drew1) | exact HB.out)⟩⟩
          ·rw [if_neg c12] at H
           have c12b0 : ((Go.bits .and .i64 a1 2) == 2) = false := beq_eq_false_iff_ne.mpr c12
           have c12b1 : ((Go.bits .and .i64 a1 2) != 2) = true := bne_iff_ne.mpr c12
           (first | rw [c12b0] | (simp only [i64_w, i32_w]; rw [c12b0]) | skip)
           have H' := Aside0.mk H
           clear H
           go_wp2
           go_meet
           case rel => exact ⟨_, (false), (by first | rfl | (simp; done) | (simp [*]; done)), H', ⟨by have := HJ3.out; have := HK2.out; have := HJ8.out; first | omega | exact Nat.le_refl _⟩, ⟨by (with_reducible repeat (first | apply Kd.R_alloc | apply Kd.R_drewN | apply Kd.R_drew)); exact HO_6.out⟩, ⟨by repeat (first | (with_reducible first | exact HB.out | apply below_alloc | apply pw_below_drewN | apply below_drew1) | exact HB.out)⟩⟩
         case rest =>
          clear HC11
          try clear c1
          try clear p2
          try clear c6
          try clear c6b0
          try clear p6
          try clear c7
          try clear c8
          try clear c8b0
          try clear c10
          try clear c10b0
          try clear c10b1
          try clear c12
          try clear c12b0
          try clear c12b1
          try clear p2
          try clear p6
          obtain ⟨kq, x50_10, rfl, HA, HJ10, HO_6, HB⟩ := hcut
          cases kq with
          | zero => exact absurd HA.out (by simp [quernlaw13_MovesLong.j3])
          | succ kj10 =>
           have H := HA.out
           clear HA
           simp only [quernlaw13_MovesLong.j3] at H
           by_cases c13 : x50_10 = true
           ·subst c13
            have H1 : ((quernlaw13_reg.f x8_8).bind fun bt349 => ((quernlaw13_reg.f 0).bind fun bt351 => (if x6_2.length < 4398046511104 then (quernlaw13_MovesLong.l0 kj10 a0 a1 t348 (x6_2 ++ [(⟨(⟨bt349.1, bt349.2⟩ : S24), (⟨bt351.1, bt351.2⟩ : S24)⟩ : S36)]) (wrap64 (x7_2 + 1))) else (none)))) = some r := by rw [if_pos rfl] at H; exact H
            clear H
            have H := H1
            clear H1
            replace H := Option.bind_eq_some_iff.mp H
            obtain ⟨⟨t349, t350⟩, A140, H⟩ := H
            replace H : ((quernlaw13_reg.f 0).bind fun bt351 => (if x6_2.length < 4398046511104 then (quernlaw13_MovesLong.l0 kj10 a0 a1 t348 (x6_2 ++ [(⟨(⟨t349, t350⟩ : S24), (⟨bt351.1, bt351.2⟩ : S24)⟩ : S36)]) (wrap64 (x7_2 + 1))) else (none))) = some r := H
            have A14 := Aside0.mk A140
            clear A140
            replace H := Option.bind_eq_some_iff.mp H
            obtain ⟨⟨t351, t352⟩, A150, H⟩ := H
            replace H : (if x6_2.length < 4398046511104 then (quernlaw13_MovesLong.l0 kj10 a0 a1 t348 (x6_2 ++ [(⟨(⟨t349, t350⟩ : S24), (⟨t351, t352⟩ : S24)⟩ : S36)]) (wrap64 (x7_2 + 1))) else (none)) = some r := H
            have A15 := Aside0.mk A150
            clear A150
            by_cases c16 : x6_2.length < 4398046511104
            ·rw [if_pos c16] at H
             have LMc16 := Aside0.mk c16
             clear c16
             obtain ⟨y353, hy353⟩ : ∃ y_ : List (S36), y_ = (x6_2 ++ [(⟨(⟨t349, t350⟩ : S24), (⟨t351, t352⟩ : S24)⟩ : S36)]) := ⟨_, rfl⟩
             replace H : (quernlaw13_MovesLong.l0 kj10 a0 a1 t348 y353 (wrap64 (x7_2 + 1))) = some r := by first | (rw [hy353]; with_reducible exact H) | (have H2_ := (Option.bind_some _ _).symm.trans H; rw [hy353]; with_reducible exact H2_) | (have H2_ := (Option.bind_some _ _).symm.trans H; with_reducible exact H2_) | with_reducible exact H | (rw [hy353]; exact H) | exact H
             have Ny353 := Aside0.mk hy353
             clear hy353
             have H' := Aside0.mk H
             clear H
             go_wp2_with (first | ((with_reducible refine gate_callee (f := 17) rfl ?_); refine goesL_ (some 53) rfl rfl Try.func17 (by kernel_rfl) rfl #[.int .i64 x8_8] rfl (by (try simp only [List.map_toArray, List.map_cons, List.map_nil]); first | done | rfl | (simp only [List.length_drop, List.length_take]; rfl)) ?_; (with_reducible refine (quernlaw13_reg.calls x8_8 t349 t350 _ A14.out).mono ?_); rintro e w17 ⟨rfl, hb⟩; refine ⟨_, rfl, ?_⟩; have n0_ := Aside0.mk (Kd.R_below (by (with_reducible repeat (first | apply Kd.R_alloc | apply Kd.R_drewN | apply Kd.R_drew)); exact HO_6.out) hb); have n1_ := Aside0.mk (below_step (by repeat (first | (with_reducible first | exact HB.out | apply below_alloc | apply pw_below_drewN | apply below_drew1) | exact HB.out)) hb); clear HO_6; clear HB; have HO_6 := n0_; have HB := n1_; clear n0_ n1_; (try clear hb); (try clear hb2); (try clear hk); (try clear hi)) | ((with_reducible refine gate_callee (f := 17) rfl ?_); refine goesL_ (some 55) rfl rfl Try.func17 (by kernel_rfl) rfl #[.int .i64 0] rfl (by (try simp only [List.map_toArray, List.map_cons, List.map_nil]); first | done | rfl | (simp only [List.length_drop, List.length_take]; rfl)) ?_; (with_reducible refine (quernlaw13_reg.calls 0 t351 t352 _ A15.out).mono ?_); rintro e w18 ⟨rfl, hb⟩; refine ⟨_, rfl, ?_⟩; have n0_ := Aside0.mk (Kd.R_below (by (with_reducible repeat (first | apply Kd.R_alloc | apply Kd.R_drewN | apply Kd.R_drew)); exact HO_6.out) hb); have n1_ := Aside0.mk (below_step (by repeat (first | (with_reducible first | exact HB.out | apply below_alloc | apply pw_below_drewN | apply below_drew1) | exact HB.out)) hb); clear HO_6; clear HB; have HO_6 := n0_; have HB := n1_; clear n0_ n1_; (try clear hb); (try clear hb2); (try clear hk); (try clear hi)) | ((with_reducible refine gate_builtin (b := .append) (xs := #[.tmp 51, .tmp 57]) rfl ?_); (try (refine gate_guard (by rfl) ?_; dsimp only)); at_builtin; refine Kd.R_append k36 (w0 := w) w.heap.size rfl (.tmp 51) (.tmp 57) 22 36 (.agg #[(.int .i64 0), (.int .i64 0), (.int .i64 0), (.int .i64 0)]) 32 rfl Try.underlying22 info36 rfl (by decide) (by omega) u6 x6_2 (⟨(⟨t349, t350⟩ : S24), (⟨t351, t352⟩ : S24)⟩ : S36) [.int .i64 t349, .int .i64 t350, .int .i64 t351, .int .i64 t352] (fun _ => True) (fun _ => False) rfl rfl ?aP (fun _ hk => hk.elim) ?aF ?aO ?aB ?aS ?aL ?_; (case aP => exact k36_mkM _ _ _ (⟨(⟨t349, t350⟩ : S24), (⟨t351, t352⟩ : S24)⟩ : S36)); (case aB => exact (by repeat (first | (with_reducible first | exact HB.out | apply below_alloc | apply pw_below_drewN | apply below_drew1) | exact HB.out))); (case aF => exact (fun _ _ => trivial)); (case aO => exact (by (with_reducible repeat (first | apply Kd.R_alloc | apply Kd.R_drewN | apply Kd.R_drew)); exact HO_6.out)); (case aS => exact (below_size (by repeat (first | (with_reducible first | exact HB.out | apply below_alloc | apply pw_below_drewN | apply below_drew1) | exact HB.out)))); (case aL => have := LMc16.out; omega); intro v354 w19 ho hb hg hat; rw [← Ny353.out] at ho; have n0_ := Aside0.mk (hb); have n1_ := Aside0.mk (ho); clear HB; clear HO_6; have HB := n0_; have HO355 := n1_; clear n0_ n1_; clear ho hb hg hat))
             go_roundg kj10
             case measure => have := HJ3.out; have := HK2.out; have := HJ8.out; have := HJ10.out; omega
             case rel => exact ⟨(y353), (wrap64 (x7_2 + 1)), (by first | rfl | (simp; done) | (simp [*]; done)), H', ⟨by have := HJ3.out; have := HK2.out; have := HJ8.out; have := HJ10.out; omega⟩, ⟨by (with_reducible repeat (first | apply Kd.R_alloc | apply Kd.R_drewN | apply Kd.R_drew)); exact HO355.out⟩, ⟨by repeat (first | (with_reducible first | exact HB.out | apply below_alloc | apply pw_below_drewN | apply below_drew1) | exact HB.out)⟩⟩
            ·rw [if_neg c16] at H
             exact absurd H (by simp)
           ·replace c13 := Bool.eq_false_iff.mpr c13
            subst c13
            have H1 : ((quernlaw13_reg.f x8_8).bind fun bt356 => ((quernlaw13_reg.f (wrap64 (x8_8 + 1))).bind fun bt358 => (if x6_2.length < 4398046511104 then (quernlaw13_MovesLong.l0 kj10 a0 a1 t348 (x6_2 ++ [(⟨(⟨bt356.1, bt356.2⟩ : S24), (⟨bt358.1, bt358.2⟩ : S24)⟩ : S36)]) (wrap64 (x7_2 + 1))) else (none)))) = some r := by rw [if_neg (show ¬ (false = true) by decide)] at H; exact H
            clear H
            have H := H1
            clear H1
            replace H := Option.bind_eq_some_iff.mp H
            obtain ⟨⟨t356, t357⟩, A200, H⟩ := H
            replace H : ((quernlaw13_reg.f (wrap64 (x8_8 + 1))).bind fun bt358 => (if x6_2.length < 4398046511104 then (quernlaw13_MovesLong.l0 kj10 a0 a1 t348 (x6_2 ++ [(⟨(⟨t356, t357⟩ : S24), (⟨bt358.1, bt358.2⟩ : S24)⟩ : S36)]) (wrap64 (x7_2 + 1))) else (none))) = some r := H
            have A20 := Aside0.mk A200
            clear A200
            replace H := Option.bind_eq_some_iff.mp H
            obtain ⟨⟨t358, t359⟩, A210, H⟩ := H
            replace H : (if x6_2.length < 4398046511104 then (quernlaw13_MovesLong.l0 kj10 a0 a1 t348 (x6_2 ++ [(⟨(⟨t356, t357⟩ : S24), (⟨t358, t359⟩ : S24)⟩ : S36)]) (wrap64 (x7_2 + 1))) else (none)) = some r := H
            have A21 := Aside0.mk A210
            clear A210
            by_cases c22 : x6_2.length < 4398046511104
            ·rw [if_pos c22] at H
             have LMc22 := Aside0.mk c22
             clear c22
             obtain ⟨y360, hy360⟩ : ∃ y_ : List (S36), y_ = (x6_2 ++ [(⟨(⟨t356, t357⟩ : S24), (⟨t358, t359⟩ : S24)⟩ : S36)]) := ⟨_, rfl⟩
             replace H : (quernlaw13_MovesLong.l0 kj10 a0 a1 t348 y360 (wrap64 (x7_2 + 1))) = some r := by first | (rw [hy360]; with_reducible exact H) | (have H2_ := (Option.bind_some _ _).symm.trans H; rw [hy360]; with_reducible exact H2_) | (have H2_ := (Option.bind_some _ _).symm.trans H; with_reducible exact H2_) | with_reducible exact H | (rw [hy360]; exact H) | exact H
             have Ny360 := Aside0.mk hy360
             clear hy360
             have H' := Aside0.mk H
             clear H
             go_wp2_with (first | ((with_reducible refine gate_callee (f := 17) rfl ?_); refine goesL_ (some 53) rfl rfl Try.func17 (by kernel_rfl) rfl #[.int .i64 x8_8] rfl (by (try simp only [List.map_toArray, List.map_cons, List.map_nil]); first | done | rfl | (simp only [List.length_drop, List.length_take]; rfl)) ?_; (with_reducible refine (quernlaw13_reg.calls x8_8 t356 t357 _ A20.out).mono ?_); rintro e w23 ⟨rfl, hb⟩; refine ⟨_, rfl, ?_⟩; have n0_ := Aside0.mk (Kd.R_below (by (with_reducible repeat (first | apply Kd.R_alloc | apply Kd.R_drewN | apply Kd.R_drew)); exact HO_6.out) hb); have n1_ := Aside0.mk (below_step (by repeat (first | (with_reducible first | exact HB.out | apply below_alloc | apply pw_below_drewN | apply below_drew1) | exact HB.out)) hb); clear HO_6; clear HB; have HO_6 := n0_; have HB := n1_; clear n0_ n1_; (try clear hb); (try clear hb2); (try clear hk); (try clear hi)) | ((with_reducible refine gate_callee (f := 17) rfl ?_); refine goesL_ (some 55) rfl rfl Try.func17 (by kernel_rfl) rfl #[.int .i64 (wrap64 (x8_8 + 1))] rfl (by (try simp only [List.map_toArray, List.map_cons, List.map_nil]); first | done | rfl | (simp only [List.length_drop, List.length_take]; rfl)) ?_; (with_reducible refine (quernlaw13_reg.calls (wrap64 (x8_8 + 1)) t358 t359 _ A21.out).mono ?_); rintro e w24 ⟨rfl, hb⟩; refine ⟨_, rfl, ?_⟩; have n0_ := Aside0.mk (Kd.R_below (by (with_reducible repeat (first | apply Kd.R_alloc | apply Kd.R_drewN | apply Kd.R_drew)); exact HO_6.out) hb); have n1_ := Aside0.mk (below_step (by repeat (first | (with_reducible first | exact HB.out | apply below_alloc | apply pw_below_drewN | apply below_drew1) | exact HB.out)) hb); clear HO_6; clear HB; have HO_6 := n0_; have HB := n1_; clear n0_ n1_; (try clear hb); (try clear hb2); (try clear hk); (try clear hi)) | ((with_reducible refine gate_builtin (b := .append) (xs := #[.tmp 51, .tmp 57]) rfl ?_); (try (refine gate_guard (by rfl) ?_; dsimp only)); at_builtin; refine Kd.R_append k36 (w0 := w) w.heap.size rfl (.tmp 51) (.tmp 57) 22 36 (.agg #[(.int .i64 0), (.int .i64 0), (.int .i64 0), (.int .i64 0)]) 32 rfl Try.underlying22 info36 rfl (by decide) (by omega) u6 x6_2 (⟨(⟨t356, t357⟩ : S24), (⟨t358, t359⟩ : S24)⟩ : S36) [.int .i64 t356, .int .i64 t357, .int .i64 t358, .int .i64 t359] (fun _ => True) (fun _ => False) rfl rfl ?aP (fun _ hk => hk.elim) ?aF ?aO ?aB ?aS ?aL ?_; (case aP => exact k36_mkM _ _ _ (⟨(⟨t356, t357⟩ : S24), (⟨t358, t359⟩ : S24)⟩ : S36)); (case aB => exact (by repeat (first | (with_reducible first | exact HB.out | apply below_alloc | apply pw_below_drewN | apply below_drew1) | exact HB.out))); (case aF => exact (fun _ _ => trivial)); (case aO => exact (by (with_reducible repeat (first | apply Kd.R_alloc | apply Kd.R_drewN | apply Kd.R_drew)); exact HO_6.out)); (case aS => exact (below_size (by repeat (first | (with_reducible first | exact HB.out | apply below_alloc | apply pw_below_drewN | apply below_drew1) | exact HB.out)))); (case aL => have := LMc22.out; omega); intro v361 w25 ho hb hg hat; rw [← Ny360.out] at ho; have n0_ := Aside0.mk (hb); have n1_ := Aside0.mk (ho); clear HB; clear HO_6; have HB := n0_; have HO362 := n1_; clear n0_ n1_; clear ho hb hg hat))
             go_roundg kj10
             case measure => have := HJ3.out; have := HK2.out; have := HJ8.out; have := HJ10.out; omega
             case rel => exact ⟨(y360), (wrap64 (x7_2 + 1)), (by first | rfl | (simp; done) | (simp [*]; done)), H', ⟨by have := HJ3.out; have := HK2.out; have := HJ8.out; have := HJ10.out; omega⟩, ⟨by (with_reducible repeat (first | apply Kd.R_alloc | apply Kd.R_drewN | apply Kd.R_drew)); exact HO362.out⟩, ⟨by repeat (first | (with_reducible first | exact HB.out | apply below_alloc | apply pw_below_drewN | apply below_drew1) | exact HB.out)⟩⟩
            ·rw [if_neg c22] at H
             exact absurd H (by simp)
      ·rw [if_neg c8] at H
       have c8b0 : decide (x7_2 < a0) = false := decide_eq_false c8
       clear c8
       replace H := Option.bind_eq_some_iff.mp H
       obtain ⟨⟨t363, t366⟩, A260, H⟩ := H
       replace H : (if (Go.bits .and .i64 a1 2) = 2 then (quernlaw13_MovesLong.j4 k2 a0 a1 t348 t363 t366 (wrap64 (a0 + 1))) else (quernlaw13_MovesLong.j4 k2 a0 a1 t348 t363 t366 a0)) = some r := H
       have A26 := Aside0.mk A260
       clear A260
       have HC27 := Aside0.mk H
       clear H
       obtain ⟨Ao28, co28, eo28⟩ := Kd.R_slice HO_6.out
       subst eo28
       go_upto_if 68 with (first | ((with_reducible refine gate_callee (f := 10) rfl ?_); refine goesL_ (some 62) rfl rfl Try.func10 (by kernel_rfl) rfl #[.slice Ao28 x6_2.length co28, .agg #[.int .i64 2, .int .i64 3]] rfl (by (try simp only [List.map_toArray, List.map_cons, List.map_nil]); first | done | rfl | (simp only [List.length_drop, List.length_take]; rfl)) ?_; (with_reducible refine (moves_Order.calls k2 _ _ x6_2 2 3 t363 t366 _ ?side1 ?side2 A26.out).mono ?_); (case side1 => repeat (first | exact (Kd.R_reads' HO_6.out).2.2 | (with_reducible refine Kd.C_alloc ?_ _) | (with_reducible refine Kd.C_drewN ?_ _) | (with_reducible refine Kd.C_drew ?_))); (case side2 => exact (Kd.R_reads' HO_6.out).2.1); rintro e w29 ⟨v364, rfl, ho0, hb⟩; refine ⟨_, rfl, ?_⟩; have n0_ := Aside0.mk (Kd.R_elder' (by (with_reducible repeat (first | apply Kd.R_alloc | apply Kd.R_drewN | apply Kd.R_drew)); exact HO_6.out) (Kd.R_base ho0) hb); have n1_ := Aside0.mk (Kd.R_lower (Kd.R_new' ho0 (Kd.R_lt (by (with_reducible repeat (first | apply Kd.R_alloc | apply Kd.R_drewN | apply Kd.R_drew)); exact HO_6.out))) (below_size (by repeat (first | (with_reducible first | exact HB.out | apply below_alloc | apply pw_below_drewN | apply below_drew1) | exact HB.out)))); have n2_ := Aside0.mk (below_step (by repeat (first | (with_reducible first | exact HB.out | apply below_alloc | apply pw_below_drewN | apply below_drew1) | exact HB.out)) hb); clear HO_6; clear HB; have HO_6 := n0_; have HO365 := n1_; have HB := n2_; clear n0_ n1_ n2_; (try clear hb); (try clear hb2); (try clear hk); (try clear hi); (try clear ho0)))
       (try simp only [Act.put, List.setIfInBounds_toArray, List.set_cons_zero, List.set_cons_succ])
       go_cut [12] (fun v12 wc => ∃ (kq : Nat) (x12_26 : Int), v12 = .int .i64 x12_26 ∧ Aside0 (quernlaw13_MovesLong.j4 kq a0 a1 t348 t363 t366 x12_26 = some r) ∧ Aside0 (kq ≤ k2) ∧ Aside0 (Kd.R k36 36 wc w.heap.size (fun _ => True) v364 t363) ∧ Aside0 (Below w.heap.size w wc))
       case first =>
        have H := HC27.out
        clear HC27
        by_cases c30 : (Go.bits .and .i64 a1 2) = 2
        ·rw [if_pos c30] at H
         have c30b0 : ((Go.bits .and .i64 a1 2) == 2) = true := beq_iff_eq.mpr c30
         have c30b1 : ((Go.bits .and .i64 a1 2) != 2) = false := bne_eq_false_iff_eq.mpr c30
         clear c30
         (first | rw [c30b0] | (simp only [i64_w, i32_w]; rw [c30b0]) | skip)
         have H' := Aside0.mk H
         clear H
         go_wp2
         go_meet
         case rel => exact ⟨_, (wrap64 (a0 + 1)), (by first | rfl | (simp; done) | (simp [*]; done)), H', ⟨by have := HJ3.out; have := HK2.out; first | omega | exact Nat.le_refl _⟩, ⟨by (with_reducible repeat (first | apply Kd.R_alloc | apply Kd.R_drewN | apply Kd.R_drew)); exact Kd.R_mono HO365.out (fun _ hk => trivial)⟩, ⟨by repeat (first | (with_reducible first | exact HB.out | apply below_alloc | apply pw_below_drewN | apply below_drew1) | exact HB.out)⟩⟩
        ·rw [if_neg c30] at H
         have c30b0 : ((Go.bits .and .i64 a1 2) == 2) = false := beq_eq_false_iff_ne.mpr c30
         have c30b1 : ((Go.bits .and .i64 a1 2) != 2) = true := bne_iff_ne.mpr c30
         (first | rw [c30b0] | (simp only [i64_w, i32_w]; rw [c30b0]) | skip)
         have H' := Aside0.mk H
         clear H
         go_wp2
         go_meet
         case rel => exact ⟨_, (a0), (by first | rfl | (simp; done) | (simp [*]; done)), H', ⟨by have := HJ3.out; have := HK2.out; first | omega | exact Nat.le_refl _⟩, ⟨by (with_reducible repeat (first | apply Kd.R_alloc | apply Kd.R_drewN | apply Kd.R_drew)); exact Kd.R_mono HO365.out (fun _ hk => trivial)⟩, ⟨by repeat (first | (with_reducible first | exact HB.out | apply below_alloc | apply pw_below_drewN | apply below_drew1) | exact HB.out)⟩⟩
       case rest =>
        clear HC27
        try clear c1
        try clear c2
        try clear p2
        try clear c3
        try clear c6
        try clear c6b0
        try clear p6
        try clear c7
        try clear c8
        try clear c8b0
        try clear c10
        try clear c10b0
        try clear c10b1
        try clear c12
        try clear c12b0
        try clear c12b1
        try clear c13
        try clear c16
        try clear c17
        try clear c22
        try clear c30
        try clear c30b0
        try clear c30b1
        try clear p2
        try clear p6
        obtain ⟨kq, x12_26, rfl, HA, HJ26, HO_10, HB⟩ := hcut
        cases kq with
        | zero => exact absurd HA.out (by simp [quernlaw13_MovesLong.j4])
        | succ kj26 =>
         have H := HA.out
         clear HA
         simp only [quernlaw13_MovesLong.j4] at H
         have HC31 := Aside0.mk H
         clear H
         go_upto_region 19 with (fail)
         go_cut [78] (fun v78 wc => ∃ (kq : Nat) (x78_30 : Bool), v78 = .bool x78_30 ∧ Aside0 (quernlaw13_MovesLong.j5 kq a0 a1 t348 t363 x78_30 = some r) ∧ Aside0 (kq ≤ kj26) ∧ Aside0 (Kd.R k36 36 wc w.heap.size (fun _ => True) v364 t363) ∧ Aside0 (Below w.heap.size w wc))
         case first =>
          have H := HC31.out
          clear HC31
          by_cases c32 : t366 = 0
          ·rw [if_pos c32] at H
           have c32b0 : (t366 == 0) = true := beq_iff_eq.mpr c32
           have c32b1 : (t366 != 0) = false := bne_eq_false_iff_eq.mpr c32
           clear c32
           (first | rw [c32b0] | (simp only [i64_w, i32_w]; rw [c32b0]) | skip)
           have H' := Aside0.mk H
           clear H
           obtain ⟨Ao33, co33, eo33⟩ := Kd.R_slice HO_10.out
           subst eo33
           go_wp2
           go_meet
           case rel => exact ⟨_, (((t363.length : Int) != x12_26)), (by first | rfl | (simp; done) | (simp [*]; done)), H', ⟨by have := HJ3.out; have := HK2.out; have := HJ26.out; first | omega | exact Nat.le_refl _⟩, ⟨by (with_reducible repeat (first | apply Kd.R_alloc | apply Kd.R_drewN | apply Kd.R_drew)); exact HO_10.out⟩, ⟨by repeat (first | (with_reducible first | exact HB.out | apply below_alloc | apply pw_below_drewN | apply below_drew1) | exact HB.out)⟩⟩
          ·rw [if_neg c32] at H
           have c32b0 : (t366 == 0) = false := beq_eq_false_iff_ne.mpr c32
           have c32b1 : (t366 != 0) = true := bne_iff_ne.mpr c32
           (first | rw [c32b0] | (simp only [i64_w, i32_w]; rw [c32b0]) | skip)
           have H' := Aside0.mk H
           clear H
           go_wp2
           go_meet
           case rel => exact ⟨_, (true), (by first | rfl | (simp; done) | (simp [*]; done)), H', ⟨by have := HJ3.out; have := HK2.out; have := HJ26.out; first | omega | exact Nat.le_refl _⟩, ⟨by (with_reducible repeat (first | apply Kd.R_alloc | apply Kd.R_drewN | apply Kd.R_drew)); exact HO_10.out⟩, ⟨by repeat (first | (with_reducible first | exact HB.out | apply below_alloc | apply pw_below_drewN | apply below_drew1) | exact HB.out)⟩⟩
         case rest =>
          clear HC31
          try clear c1
          try clear c2
          try clear p2
          try clear c3
          try clear c6
          try clear c6b0
          try clear p6
          try clear c7
          try clear c8
          try clear c8b0
          try clear c10
          try clear c10b0
          try clear c10b1
          try clear c12
          try clear c12b0
          try clear c12b1
          try clear c13
          try clear c16
          try clear c17
          try clear c22
          try clear c30
          try clear c30b0
          try clear c30b1
          try clear c32
          try clear c32b0
          try clear c32b1
          try clear p2
          try clear p6
          obtain ⟨kq, x78_30, rfl, HA, HJ30, HO_10, HB⟩ := hcut
          cases kq with
          | zero => exact absurd HA.out (by simp [quernlaw13_MovesLong.j5])
          | succ kj30 =>
           have H := HA.out
           clear HA
           simp only [quernlaw13_MovesLong.j5] at H
           by_cases c34 : x78_30 = true
           ·subst c34
            have H1 : (some false) = some r := by rw [if_pos rfl] at H; exact H
            clear H
            have H := H1
            clear H1
            obtain rfl := Option.some.inj H
            go_wp2
            go_ret
            exact ⟨by first | rfl | (simp [errW_none, errW_some] <;> rfl) | (simp [*, errW_none, errW_some] <;> rfl), by repeat (first | (with_reducible first | exact HB.out | apply below_alloc | apply pw_below_drewN | apply below_drew1) | exact HB.out)⟩
           ·replace c34 := Bool.eq_false_iff.mpr c34
            subst c34
            have H1 : (if 0 ≤ (wrap64 (a0 + 2)) then (if (wrap64 (a0 + 2) : Int).toNat ≤ 35184372088832 then (quernlaw13_MovesLong.l1 kj30 a0 a1 t348 t363 (List.replicate (wrap64 (a0 + 2) : Int).toNat 0) 0) else (none)) else (none)) = some r := by rw [if_neg (show ¬ (false = true) by decide)] at H; exact H
            clear H
            have H := H1
            clear H1
            obtain ⟨ji35, hji35⟩ : ∃ j_ : Int, (wrap64 (a0 + 2)) = j_ := ⟨_, rfl⟩
            replace H : (if 0 ≤ (ji35) then (if (ji35 : Int).toNat ≤ 35184372088832 then (quernlaw13_MovesLong.l1 kj30 a0 a1 t348 t363 (List.replicate (ji35 : Int).toNat 0) 0) else (none)) else (none)) = some r := by first | (rw [hji35] at H; exact H) | (simp only [hji35] at H ⊢; exact H)
            have hji35w : (IntKind.i64.wrap (a0 + 2)) = ji35 := (i64_w _).trans hji35
            by_cases c36 : 0 ≤ (ji35)
            ·rw [if_pos c36] at H
             have c36b0 := eq_true c36
             have c36b1 : decide (0 ≤ (ji35)) = true := decide_eq_true c36
             clear c36
             by_cases c37 : (ji35 : Int).toNat ≤ 35184372088832
             ·rw [if_pos c37] at H
              have c37b0 := eq_true c37
              have c37b1 : decide ((ji35 : Int).toNat ≤ 35184372088832) = true := decide_eq_true c37
              clear c37
              obtain ⟨y367, hy367⟩ : ∃ y_ : List Int, y_ = (List.replicate (ji35 : Int).toNat 0) := ⟨_, rfl⟩
              replace H : (quernlaw13_MovesLong.l1 kj30 a0 a1 t348 t363 y367 0) = some r := by first | (rw [hy367]; with_reducible exact H) | (have H2_ := (Option.bind_some _ _).symm.trans H; rw [hy367]; with_reducible exact H2_) | (have H2_ := (Option.bind_some _ _).symm.trans H; with_reducible exact H2_) | with_reducible exact H | (rw [hy367]; exact H) | exact H
              have Ny367 := Aside0.mk hy367
              clear hy367
              have H' := Aside0.mk H
              clear H
              go_wp2_with (first | ((with_reducible refine gate_dst (N := 81) rfl ?_); (try (refine gate_guard (by rfl) ?_; dsimp only)); refine Kd.R_make (Kd.int .i64) _ 3 rfl (N := 81) rfl 42 _ _ rfl ji35 rfl rfl Try.underlying42 (.int .i64 0) 8 info3 rfl (by decide) (by omega) 0 (ok := fun _ => True) (okp := fun _ => True) rfl (fun _ hk => hk) trivial (of_decide_eq_true (by first | (with_reducible assumption) | assumption)) (Nat.le_trans (Nat.mul_le_mul_right _ (of_decide_eq_true (by first | (with_reducible assumption) | assumption) : ji35.toNat ≤ 35184372088832)) (by omega)) (Below.refl _ _) (Nat.le_refl _) ?_; intro v368 w38 ho39 hb hg_ hnew_; clear hg_ hnew_; (first | rw [← Ny367.out] at ho39 | (simp only [Int.reduceToNat] at ho39; rw [← Ny367.out] at ho39)); have n0_ := Aside0.mk (Kd.R_below (by (with_reducible repeat (first | apply Kd.R_alloc | apply Kd.R_drewN | apply Kd.R_drew)); exact HO_10.out) hb); have n1_ := Aside0.mk (Kd.R_lower ho39 (below_size (by repeat (first | (with_reducible first | exact HB.out | apply below_alloc | apply pw_below_drewN | apply below_drew1) | exact HB.out)))); have n2_ := Aside0.mk (below_step (by repeat (first | (with_reducible first | exact HB.out | apply below_alloc | apply pw_below_drewN | apply below_drew1) | exact HB.out)) hb); clear HO_10; clear HB; have HO_10 := n0_; have HO369 := n1_; have HB := n2_; clear n0_ n1_ n2_; clear hb ho39))
              go_loopg [14] kj30 (fun kq v14 w' => ∃ (x13_5 : List Int) (x14_5 : Int), v14 = .int .i64 x14_5 ∧ Aside0 (quernlaw13_MovesLong.l1 kq a0 a1 t348 t363 x13_5 x14_5 = some r) ∧ Aside0 (kq ≤ kj30) ∧ Aside0 (Kd.R k36 36 w' w.heap.size (fun _ => True) v364 t363) ∧ Aside0 (Kd.R (Kd.int .i64) 3 w' w.heap.size (fun _ => True) v368 x13_5) ∧ Aside0 (Below w.heap.size w w'))
              case atStart => exact ⟨(y367), (0), (by first | rfl | (simp; done) | (simp [*]; done)), H', ⟨Nat.le_refl _⟩, ⟨by (with_reducible repeat (first | apply Kd.R_alloc | apply Kd.R_drewN | apply Kd.R_drew)); exact HO_10.out⟩, ⟨by (with_reducible repeat (first | apply Kd.R_alloc | apply Kd.R_drewN | apply Kd.R_drew)); exact HO369.out⟩, ⟨by repeat (first | (with_reducible first | exact HB.out | apply below_alloc | apply pw_below_drewN | apply below_drew1) | exact HB.out)⟩⟩
              case round =>
               clear H'
               try clear c1
               try clear c2
               try clear p2
               try clear c3
               try clear c6
               try clear c6b0
               try clear p6
               try clear c7
               try clear c8
               try clear c8b0
               try clear c10
               try clear c10b0
               try clear c10b1
               try clear c12
               try clear c12b0
               try clear c12b1
               try clear c13
               try clear c16
               try clear c17
               try clear c22
               try clear c30
               try clear c30b0
               try clear c30b1
               try clear c32
               try clear c32b0
               try clear c32b1
               try clear c34
               try clear c36
               try clear c36b0
               try clear c36b1
               try clear c37
               try clear c37b0
               try clear c37b1
               try clear p2
               try clear p6
               obtain ⟨x13_5, x14_5, rfl, HA, HK5, HO_10, HO_13, HB⟩ := hrel
               cases gk with
               | zero => exact absurd HA.out (by simp [quernlaw13_MovesLong.l1])
               | succ k5 =>
                have H := HA.out
                clear HA
                simp only [quernlaw13_MovesLong.l1] at H
                by_cases c40 : x14_5 < (x13_5.length : Int)
                ·rw [if_pos c40] at H
                 have c40b0 : decide (x14_5 < (x13_5.length : Int)) = true := decide_eq_true c40
                 clear c40
                 by_cases c41 : 0 ≤ x14_5
                 ·rw [if_pos c41] at H
                  have c41b0 : decide (0 ≤ x14_5) = true := decide_eq_true c41
                  clear c41
                  obtain ⟨y370, hy370⟩ : ∃ y_ : List Int, y_ = (x13_5.set (x14_5 : Int).toNat x14_5) := ⟨_, rfl⟩
                  replace H : (quernlaw13_MovesLong.l1 k5 a0 a1 t348 t363 y370 (wrap64 (x14_5 + 1))) = some r := by first | (rw [hy370]; with_reducible exact H) | (have H2_ := (Option.bind_some _ _).symm.trans H; rw [hy370]; with_reducible exact H2_) | (have H2_ := (Option.bind_some _ _).symm.trans H; with_reducible exact H2_) | with_reducible exact H | (rw [hy370]; exact H) | exact H
                  have Ny370 := Aside0.mk hy370
                  clear hy370
                  have H' := Aside0.mk H
                  clear H
                  obtain ⟨Ao43, co43, eo43⟩ := Kd.R_slice HO_13.out
                  subst eo43
                  have p42 : 0 ≤ (x14_5 : Int) := of_decide_eq_true (by first | (with_reducible assumption) | assumption)
                  have q42 : (x14_5 : Int) < ((x13_5.length : Int) : Int) := of_decide_eq_true (by first | (with_reducible assumption) | assumption)
                  obtain ⟨go42, co42, eo42, gb42, gl42, cl42, HG42⟩ := Kd.R_form HO_13.out (by omega)
                  (first | cases eo42 | (injection eo42 with ea_ en_ ec_; (first | subst ea_ | (injection ea_ with ea_; subst ea_)); subst ec_; clear en_))
                  have GB42 := Aside0.mk gb42
                  have GG42 := Aside0.mk HG42
                  clear gb42 gl42 HG42
                  obtain ⟨hx42_0, hf42_0⟩ := Kd.R_celln 0 HO_13.out (x14_5 : Int) p42 q42
                  replace p42 := eq_true p42
                  replace q42 := eq_true q42
                  have HP44 := Kd.R_putg HO_13.out (x14_5 : Int) x14_5
                  go_wp2_with (first | ((with_reducible refine gate_store (t := 3) (p := 91) rfl ?_); refine store_event (t := 3) (p := 91) (v := ?vo_w45) (w1 := (wr.setCell ⟨go42, (x14_5 : Int).toNat, none⟩ (.int .i64 x14_5))) ?hg ?ho ?hn ?hr ?_; (case ho => rfl); (case hg => rfl); (case hn => rfl); (case hr => first | (go_simp; done) | (go_simp; rfl)); intro w45 hw; have hg : wr.grownBy w45 (some go42) := (by rw [hw]; exact HP44.2); have hp_ : Kd.R (Kd.int .i64) 3 w45 w.heap.size (fun _ => True) (.slice (some ⟨go42, 0, none⟩) x13_5.length co43) y370 := (by rw [hw, Ny370.out]; exact HP44.1); clear HP44; have n0_ := Aside0.mk (Kd.R_over' (v := (.slice (some ⟨go42, 0, none⟩) x13_5.length co43)) (by (with_reducible repeat (first | apply Kd.R_alloc | apply Kd.R_drewN | apply Kd.R_drew)); exact HO_10.out) (Kd.R_typed HO_13.out) (by decide) hg); have n1_ := Aside0.mk (hp_); have n2_ := Aside0.mk ((by rw [hw]; exact below_set (HB.out) GB42.out : Below w.heap.size w w45)); clear HO_10; clear HO_13; clear HB; have HO_10 := n0_; have HO_13 := n1_; have HB := n2_; clear n0_ n1_ n2_; clear hg hw hp_))
                  go_roundg k5
                  case measure => have := HJ3.out; have := HK2.out; have := HJ26.out; have := HJ30.out; have := HK5.out; omega
                  case rel => exact ⟨(y370), (wrap64 (x14_5 + 1)), (by first | rfl | (simp; done) | (simp [*]; done)), H', ⟨by have := HJ3.out; have := HK2.out; have := HJ26.out; have := HJ30.out; have := HK5.out; omega⟩, ⟨by (with_reducible repeat (first | apply Kd.R_alloc | apply Kd.R_drewN | apply Kd.R_drew)); exact HO_10.out⟩, ⟨by (with_reducible repeat (first | apply Kd.R_alloc | apply Kd.R_drewN | apply Kd.R_drew)); exact HO_13.out⟩, ⟨by repeat (first | (with_reducible first | exact HB.out | apply below_alloc | apply pw_below_drewN | apply below_drew1) | exact HB.out)⟩⟩
                 ·rw [if_neg c41] at H
                  exact absurd H (by simp)
                ·rw [if_neg c40] at H
                 have c40b0 : decide (x14_5 < (x13_5.length : Int)) = false := decide_eq_false c40
                 clear c40
                 have H' := Aside0.mk H
                 clear H
                 obtain ⟨Ao46, co46, eo46⟩ := Kd.R_slice HO_13.out
                 subst eo46
                 go_wp2
                 go_loopg [15] k5 (fun kq v15 w' => ∃ (x13_6 : List Int) (x15_6 : Int), v15 = .int .i64 x15_6 ∧ Aside0 (quernlaw13_MovesLong.l2 kq a0 a1 t348 t363 x13_6 x15_6 = some r) ∧ Aside0 (kq ≤ k5) ∧ Aside0 (Kd.R k36 36 w' w.heap.size (fun _ => True) v364 t363) ∧ Aside0 (Kd.R (Kd.int .i64) 3 w' w.heap.size (fun _ => True) (.slice Ao46 x13_5.length co46) x13_6) ∧ Aside0 (Below w.heap.size w w'))
                 case atStart => exact ⟨(x13_5), (0), (by first | rfl | (simp; done) | (simp [*]; done)), H', ⟨Nat.le_refl _⟩, ⟨by (with_reducible repeat (first | apply Kd.R_alloc | apply Kd.R_drewN | apply Kd.R_drew)); exact HO_10.out⟩, ⟨by (with_reducible repeat (first | apply Kd.R_alloc | apply Kd.R_drewN | apply Kd.R_drew)); exact HO_13.out⟩, ⟨by repeat (first | (with_reducible first | exact HB.out | apply below_alloc | apply pw_below_drewN | apply below_drew1) | exact HB.out)⟩⟩
                 case round =>
                  clear H'
                  try clear c1
                  try clear c2
                  try clear p2
                  try clear c3
                  try clear c4
                  try clear p4
                  try clear q4
                  try clear hx4
                  try clear hf4
                  try clear c6
                  try clear c6b0
                  try clear p6
                  try clear c7
                  try clear c8
                  try clear c8b0
                  try clear c10
                  try clear c10b0
                  try clear c10b1
                  try clear c12
                  try clear c12b0
                  try clear c12b1
                  try clear c13
                  try clear c16
                  try clear c17
                  try clear c22
                  try clear c30
                  try clear c30b0
                  try clear c30b1
                  try clear c32
                  try clear c32b0
                  try clear c32b1
                  try clear c34
                  try clear c36
                  try clear c36b0
                  try clear c36b1
                  try clear c37
                  try clear c37b0
                  try clear c37b1
                  try clear c40
                  try clear c40b0
                  try clear c41
                  try clear c41b0
                  try clear p42
                  try clear q42
                  try clear hx42
                  try clear hf42
                  try clear hx42_0
                  try clear p2
                  try clear p42
                  try clear p6
                  try clear q42
                  obtain ⟨x13_6, x15_6, rfl, HA, HK6, HO_10, HO_13, HB⟩ := hrel
                  have hl13_6 := (Kd.R_reads' HO_13.out).1
                  rw [hl13_6] at HO_13
                  (try simp only [hl13_6])
                  (try simp only [hl13_6] at HO_10)
                  cases gk with
                  | zero => exact absurd HA.out (by simp [quernlaw13_MovesLong.l2])
                  | succ k6 =>
                   have H := HA.out
                   clear HA
                   simp only [quernlaw13_MovesLong.l2] at H
                   by_cases c47 : x15_6 < (t363.length : Int)
                   ·rw [if_pos c47] at H
                    have c47b0 : decide (x15_6 < (t363.length : Int)) = true := decide_eq_true c47
                    clear c47
                    by_cases c48 : 0 ≤ x15_6
                    ·rw [if_pos c48] at H
                     have c48b0 : decide (0 ≤ x15_6) = true := decide_eq_true c48
                     clear c48
                     replace H := Option.bind_eq_some_iff.mp H
                     obtain ⟨t372, A490, H⟩ := H
                     replace H : ((quernlaw13_place.f ((rd_T36 t363 x15_6).f0.f0) ((rd_T36 t363 x15_6).f0.f1) a0).bind fun t374 => (if t372 < 0 then (some false) else (if t374 < 0 then (some false) else (if 0 ≤ t372 then (if t372 < (x13_6.length : Int) then (if 0 ≤ t374 then (if t374 < (x13_6.length : Int) then (quernlaw13_MovesLong.l2 k6 a0 a1 t348 t363 (x13_6.set (t374 : Int).toNat (rd x13_6 t372)) (wrap64 (x15_6 + 1))) else (none)) else (none)) else (none)) else (none))))) = some r := H
                     have A49 := Aside0.mk A490
                     clear A490
                     replace H := Option.bind_eq_some_iff.mp H
                     obtain ⟨t374, A500, H⟩ := H
                     replace H : (if t372 < 0 then (some false) else (if t374 < 0 then (some false) else (if 0 ≤ t372 then (if t372 < (x13_6.length : Int) then (if 0 ≤ t374 then (if t374 < (x13_6.length : Int) then (quernlaw13_MovesLong.l2 k6 a0 a1 t348 t363 (x13_6.set (t374 : Int).toNat (rd x13_6 t372)) (wrap64 (x15_6 + 1))) else (none)) else (none)) else (none)) else (none)))) = some r := H
                     have A50 := Aside0.mk A500
                     clear A500
                     by_cases c51 : t372 < 0
                     ·rw [if_pos c51] at H
                      have c51b0 : decide (t372 < 0) = true := decide_eq_true c51
                      clear c51
                      obtain rfl := Option.some.inj H
                      obtain ⟨Ao52, co52, eo52⟩ := Kd.R_slice HO_10.out
                      subst eo52
                      try go_wp2
                      have n0_ := Aside0.mk (Kd.R_drew HO_10.out)
                      have n1_ := Aside0.mk (Kd.R_drew HO_13.out)
                      have n2_ := Aside0.mk (below_drew1 HB.out)
                      clear HO_10
                      clear HO_13
                      clear HB
                      have HO_10 := n0_
                      have HO_13 := n1_
                      have HB := n2_
                      clear n0_ n1_ n2_
                      have p371 : 0 ≤ (x15_6 : Int) := of_decide_eq_true (by first | (with_reducible assumption) | assumption)
                      have q371 : x15_6 < (t363.length : Int) := of_decide_eq_true (by first | (with_reducible assumption) | assumption)
                      obtain ⟨ad371, e371, hx371_0, hx371_1, hx371_2, hx371_3⟩ := at_T36 (Kd.R_reads' HO_10.out).2.2 x15_6 p371 q371
                      cases e371
                      replace p371 := eq_true p371
                      replace q371 := eq_true q371
                      have p373 : 0 ≤ (x15_6 : Int) := of_decide_eq_true (by first | (with_reducible assumption) | assumption)
                      have q373 : x15_6 < (t363.length : Int) := of_decide_eq_true (by first | (with_reducible assumption) | assumption)
                      obtain ⟨ad373, e373, hx373_0, hx373_1, hx373_2, hx373_3⟩ := at_T36 (Kd.R_reads' HO_10.out).2.2 x15_6 p373 q373
                      obtain rfl : ad371 = ad373 := (by injection e373)
                      replace p373 := eq_true p373
                      replace q373 := eq_true q373
                      refine start_ (n := 16) (S := fun w' => w'.cell? (ad371.add ((x15_6).toNat * 4)) = some (.int .i64 ((rd_T36 t363 x15_6).f0.f0)) ∧ w'.cell? ⟨(ad371.add ((x15_6).toNat * 4)).block, (ad371.add ((x15_6).toNat * 4)).off + 1, none⟩ = some (.int .i64 ((rd_T36 t363 x15_6).f0.f1)) ∧ w'.cell? ⟨(ad371.add ((x15_6).toNat * 4)).block, (ad371.add ((x15_6).toNat * 4)).off + 2, none⟩ = some (.int .i64 ((rd_T36 t363 x15_6).f1.f0)) ∧ w'.cell? ⟨(ad371.add ((x15_6).toNat * 4)).block, (ad371.add ((x15_6).toNat * 4)).off + 3, none⟩ = some (.int .i64 ((rd_T36 t363 x15_6).f1.f1)) ∧ w'.cell? (ad371.add ((x15_6).toNat * 4)) = some (.int .i64 ((rd_T36 t363 x15_6).f0.f0)) ∧ w'.cell? ⟨(ad371.add ((x15_6).toNat * 4)).block, (ad371.add ((x15_6).toNat * 4)).off + 1, none⟩ = some (.int .i64 ((rd_T36 t363 x15_6).f0.f1)) ∧ w'.cell? ⟨(ad371.add ((x15_6).toNat * 4)).block, (ad371.add ((x15_6).toNat * 4)).off + 2, none⟩ = some (.int .i64 ((rd_T36 t363 x15_6).f1.f0)) ∧ w'.cell? ⟨(ad371.add ((x15_6).toNat * 4)).block, (ad371.add ((x15_6).toNat * 4)).off + 3, none⟩ = some (.int .i64 ((rd_T36 t363 x15_6).f1.f1))) (ds := []) (bl 0 16) (by kernel_rfl) rfl rfl ⟨hx371_0, hx371_1, hx371_2, hx371_3, hx373_0, hx373_1, hx373_2, hx373_3⟩ (fun hHeld => ?_); refine with_tabW quernlaw13_MovesLong.tab29 quernlaw13_MovesLong.bits29 (fun HT_ HW_ => ?_)
                      generalize wr.drew = w53 at HO_10 HO_13 HB hx371_0 hx371_1 hx371_2 hx371_3 hx373_0 hx373_1 hx373_2 hx373_3 hHeld ⊢
                      refine pure_ (i := 0) (N := some 98) (v := ?_) (a' := ?_) (bl 1 16) rfl rfl (any_of HT_.out (by kernel_rfl)) (fun _ _ _ h => h) (Or.inl ⟨by rfl, ?_⟩) ?_ ?_
                      rotate_left
                      ·intro w'
                       go_simp
                       with_reducible rfl
                      rotate_left
                      ·simp only [Act.put, List.setIfInBounds_toArray, List.set_cons_zero, List.set_cons_succ, i64_w, i32_w]
                       rfl
                      refine pure_ (i := 1) (N := some 99) (v := ?_) (a' := ?_) (bl 2 16) rfl rfl (any_of HT_.out (by kernel_rfl)) (fun _ _ _ h => h) (Or.inl ⟨by rfl, ?_⟩) ?_ ?_
                      rotate_left
                      ·intro w'
                       go_simp
                       with_reducible rfl
                      rotate_left
                      ·simp only [Act.put, List.setIfInBounds_toArray, List.set_cons_zero, List.set_cons_succ, i64_w, i32_w]
                       rfl
                      refine pure_ (i := 2) (N := some 100) (v := ?_) (a' := ?_) (bl 3 16) rfl rfl (any_of HT_.out (by kernel_rfl)) (fun _ _ _ h => h) (Or.inl ⟨by rfl, ?_⟩) ?_ ?_
                      rotate_left
                      ·intro w'
                       go_simp
                       with_reducible rfl
                      rotate_left
                      ·simp only [Act.put, List.setIfInBounds_toArray, List.set_cons_zero, List.set_cons_succ, i64_w, i32_w]
                       rfl
                      refine pure_ (i := 3) (N := some 101) (v := ?_) (a' := ?_) (bl 4 16) rfl rfl (any_of HT_.out (by kernel_rfl)) (fun _ _ _ h => h) (Or.inl ⟨by rfl, ?_⟩) ?_ ?_
                      rotate_left
                      ·intro w'
                       go_simp
                       with_reducible rfl
                      rotate_left
                      ·simp only [Act.put, List.setIfInBounds_toArray, List.set_cons_zero, List.set_cons_succ, i64_w, i32_w]
                       rfl
                      refine pure_ (i := 5) (N := some 103) (v := ?_) (a' := ?_) #[true, true, true, true, false, true, false, false, false, false, false, false, false, false, false, false] rfl rfl (any_of HT_.out (by kernel_rfl)) (fun _ _ _ h => h) (Or.inl ⟨by rfl, ?_⟩) ?_ ?_
                      rotate_left
                      ·intro w'
                       go_simp
                       with_reducible rfl
                      rotate_left
                      ·simp only [Act.put, List.setIfInBounds_toArray, List.set_cons_zero, List.set_cons_succ, i64_w, i32_w]
                       rfl
                      refine pure_ (i := 7) (N := some 105) (v := ?_) (a' := ?_) #[true, true, true, true, false, true, false, true, false, false, false, false, false, false, false, false] rfl rfl (any_of HT_.out (by kernel_rfl)) (fun _ _ _ h => h) (Or.inl ⟨by rfl, ?_⟩) ?_ ?_
                      rotate_left
                      ·intro w'
                       go_simp
                       with_reducible rfl
                      rotate_left
                      ·simp only [Act.put, List.setIfInBounds_toArray, List.set_cons_zero, List.set_cons_succ, i64_w, i32_w]
                       rfl
                      refine pure_ (i := 8) (N := some 106) (v := ?_) (a' := ?_) #[true, true, true, true, false, true, false, true, true, false, false, false, false, false, false, false] rfl rfl (any_of HT_.out (by kernel_rfl)) (fun _ _ _ h => h) (Or.inl ⟨by rfl, ?_⟩) ?_ ?_
                      rotate_left
                      ·intro w'
                       go_simp
                       with_reducible rfl
                      rotate_left
                      ·simp only [Act.put, List.setIfInBounds_toArray, List.set_cons_zero, List.set_cons_succ, i64_w, i32_w]
                       rfl
                      refine pure_ (i := 9) (N := some 107) (v := ?_) (a' := ?_) #[true, true, true, true, false, true, false, true, true, true, false, false, false, false, false, false] rfl rfl (any_of HT_.out (by kernel_rfl)) (fun _ _ _ h => h) (Or.inl ⟨by rfl, ?_⟩) ?_ ?_
                      rotate_left
                      ·intro w'
                       go_simp
                       with_reducible rfl
                      rotate_left
                      ·simp only [Act.put, List.setIfInBounds_toArray, List.set_cons_zero, List.set_cons_succ, i64_w, i32_w]
                       rfl
                      refine pure_ (i := 10) (N := some 108) (v := ?_) (a' := ?_) #[true, true, true, true, false, true, false, true, true, true, true, false, false, false, false, false] rfl rfl (any_of HT_.out (by kernel_rfl)) (fun _ _ _ h => h) (Or.inl ⟨by rfl, ?_⟩) ?_ ?_
                      rotate_left
                      ·intro w'
                       go_simp
                       with_reducible rfl
                      rotate_left
                      ·simp only [Act.put, List.setIfInBounds_toArray, List.set_cons_zero, List.set_cons_succ, i64_w, i32_w]
                       rfl
                      refine pure_ (i := 12) (N := some 110) (v := ?_) (a' := ?_) #[true, true, true, true, false, true, false, true, true, true, true, false, true, false, false, false] rfl rfl (any_of HT_.out (by kernel_rfl)) (fun _ _ _ h => h) (Or.inl ⟨by rfl, ?_⟩) ?_ ?_
                      rotate_left
                      ·intro w'
                       go_simp
                       with_reducible rfl
                      rotate_left
                      ·simp only [Act.put, List.setIfInBounds_toArray, List.set_cons_zero, List.set_cons_succ, i64_w, i32_w]
                       rfl
                      refine take_ (i := 4) (N := some 102) (v := ?_) (a' := ?_) #[true, true, true, true, true, true, false, true, true, true, true, false, true, false, false, false] rfl rfl (take_ofW HT_.out HW_.out (by kernel_rfl)) (fun _ _ _ h => h) (Or.inl ⟨by rfl, ?_⟩) hHeld ?_ ?_
                      rotate_left
                      ·rintro w' ⟨s0, s1, s2, s3, s4, s5, s6, s7⟩
                       go_simp
                       with_reducible rfl
                      rotate_left
                      ·simp only [Act.put, List.setIfInBounds_toArray, List.set_cons_zero, List.set_cons_succ, i64_w, i32_w]
                       rfl
                      refine take_ (i := 11) (N := some 109) (v := ?_) (a' := ?_) #[true, true, true, true, true, true, false, true, true, true, true, true, true, false, false, false] rfl rfl (take_ofW HT_.out HW_.out (by kernel_rfl)) (fun _ _ _ h => h) (Or.inl ⟨by rfl, ?_⟩) hHeld ?_ ?_
                      rotate_left
                      ·rintro w' ⟨s0, s1, s2, s3, s4, s5, s6, s7⟩
                       go_simp
                       with_reducible rfl
                      rotate_left
                      ·simp only [Act.put, List.setIfInBounds_toArray, List.set_cons_zero, List.set_cons_succ, i64_w, i32_w]
                       rfl
                      refine one_ (i := 6) (N := some 104) (bl 13 16) rfl rfl (one_of HT_.out (by kernel_rfl)) (by decide) (fun K hK => ?_)
                      refine goes_ Try.func18 (by kernel_rfl) rfl #[.agg #[.int .i64 ((rd_T36 t363 x15_6).f1.f0), .int .i64 ((rd_T36 t363 x15_6).f1.f1)], .int .i64 a0] (by rfl) rfl rfl (by (try simp only [List.map_toArray, List.map_cons, List.map_nil]); first | done | rfl | (simp only [List.length_drop, List.length_take]; rfl)) ?_
                      with_reducible refine (quernlaw13_place.calls ((rd_T36 t363 x15_6).f1.f0) ((rd_T36 t363 x15_6).f1.f1) a0 t372 _ A49.out).mono ?_
                      rintro e w54 ⟨rfl, hb⟩
                      have HS0_ := (hb.cell (World.block_lt_of_cell? _ _ (hHeld.1))).trans (hHeld.1)
                      have HS1_ := (hb.cell (World.block_lt_of_cell? _ _ (hHeld.2.1))).trans (hHeld.2.1)
                      have HS2_ := (hb.cell (World.block_lt_of_cell? _ _ (hHeld.2.2.1))).trans (hHeld.2.2.1)
                      have HS3_ := (hb.cell (World.block_lt_of_cell? _ _ (hHeld.2.2.2.1))).trans (hHeld.2.2.2.1)
                      have HS4_ := (hb.cell (World.block_lt_of_cell? _ _ (hHeld.2.2.2.2.1))).trans (hHeld.2.2.2.2.1)
                      have HS5_ := (hb.cell (World.block_lt_of_cell? _ _ (hHeld.2.2.2.2.2.1))).trans (hHeld.2.2.2.2.2.1)
                      have HS6_ := (hb.cell (World.block_lt_of_cell? _ _ (hHeld.2.2.2.2.2.2.1))).trans (hHeld.2.2.2.2.2.2.1)
                      have HS7_ := (hb.cell (World.block_lt_of_cell? _ _ (hHeld.2.2.2.2.2.2.2))).trans (hHeld.2.2.2.2.2.2.2)
                      refine ⟨_, rfl, ?_⟩
                      have n0_ := Aside0.mk (Kd.R_below (by (with_reducible repeat (first | apply Kd.R_alloc | apply Kd.R_drewN | apply Kd.R_drew)); exact HO_10.out) hb)
                      have n1_ := Aside0.mk (Kd.R_below (by (with_reducible repeat (first | apply Kd.R_alloc | apply Kd.R_drewN | apply Kd.R_drew)); exact HO_13.out) hb)
                      have n2_ := Aside0.mk (below_step (by repeat (first | (with_reducible first | exact HB.out | apply below_alloc | apply pw_below_drewN | apply below_drew1) | exact HB.out)) hb)
                      clear HO_10
                      clear HO_13
                      clear HB
                      have HO_10 := n0_
                      have HO_13 := n1_
                      have HB := n2_
                      clear n0_ n1_ n2_
                      (try clear hb)
                      (try clear hb2)
                      (try clear hk)
                      (try clear hi)
                      refine hK.out _ _ ⟨HS0_, HS1_, HS2_, HS3_, HS4_, HS5_, HS6_, HS7_⟩ (fun hHeld => ?_)
                      clear hK K
                      refine norm_ (a' := ?_) ?_ ?_
                      rotate_left
                      ·show Act.put _ (some 104) _ = _
                       simp only [Act.put, List.setIfInBounds_toArray, List.set_cons_zero, List.set_cons_succ, i64_w, i32_w]
                       rfl
                      refine one_ (i := 13) (N := some 111) (bl 14 16) rfl rfl (one_of HT_.out (by kernel_rfl)) (by decide) (fun K hK => ?_)
                      refine goes_ Try.func18 (by kernel_rfl) rfl #[.agg #[.int .i64 ((rd_T36 t363 x15_6).f0.f0), .int .i64 ((rd_T36 t363 x15_6).f0.f1)], .int .i64 a0] (by rfl) rfl rfl (by (try simp only [List.map_toArray, List.map_cons, List.map_nil]); first | done | rfl | (simp only [List.length_drop, List.length_take]; rfl)) ?_
                      with_reducible refine (quernlaw13_place.calls ((rd_T36 t363 x15_6).f0.f0) ((rd_T36 t363 x15_6).f0.f1) a0 t374 _ A50.out).mono ?_
                      rintro e w55 ⟨rfl, hb⟩
                      have HS0_ := (hb.cell (World.block_lt_of_cell? _ _ (hHeld.1))).trans (hHeld.1)
                      have HS1_ := (hb.cell (World.block_lt_of_cell? _ _ (hHeld.2.1))).trans (hHeld.2.1)
                      have HS2_ := (hb.cell (World.block_lt_of_cell? _ _ (hHeld.2.2.1))).trans (hHeld.2.2.1)
                      have HS3_ := (hb.cell (World.block_lt_of_cell? _ _ (hHeld.2.2.2.1))).trans (hHeld.2.2.2.1)
                      have HS4_ := (hb.cell (World.block_lt_of_cell? _ _ (hHeld.2.2.2.2.1))).trans (hHeld.2.2.2.2.1)
                      have HS5_ := (hb.cell (World.block_lt_of_cell? _ _ (hHeld.2.2.2.2.2.1))).trans (hHeld.2.2.2.2.2.1)
                      have HS6_ := (hb.cell (World.block_lt_of_cell? _ _ (hHeld.2.2.2.2.2.2.1))).trans (hHeld.2.2.2.2.2.2.1)
                      have HS7_ := (hb.cell (World.block_lt_of_cell? _ _ (hHeld.2.2.2.2.2.2.2))).trans (hHeld.2.2.2.2.2.2.2)
                      refine ⟨_, rfl, ?_⟩
                      have n0_ := Aside0.mk (Kd.R_below (by (with_reducible repeat (first | apply Kd.R_alloc | apply Kd.R_drewN | apply Kd.R_drew)); exact HO_10.out) hb)
                      have n1_ := Aside0.mk (Kd.R_below (by (with_reducible repeat (first | apply Kd.R_alloc | apply Kd.R_drewN | apply Kd.R_drew)); exact HO_13.out) hb)
                      have n2_ := Aside0.mk (below_step (by repeat (first | (with_reducible first | exact HB.out | apply below_alloc | apply pw_below_drewN | apply below_drew1) | exact HB.out)) hb)
                      clear HO_10
                      clear HO_13
                      clear HB
                      have HO_10 := n0_
                      have HO_13 := n1_
                      have HB := n2_
                      clear n0_ n1_ n2_
                      (try clear hb)
                      (try clear hb2)
                      (try clear hk)
                      (try clear hi)
                      refine hK.out _ _ ⟨HS0_, HS1_, HS2_, HS3_, HS4_, HS5_, HS6_, HS7_⟩ (fun hHeld => ?_)
                      clear hK K
                      refine norm_ (a' := ?_) ?_ ?_
                      rotate_left
                      ·show Act.put _ (some 111) _ = _
                       simp only [Act.put, List.setIfInBounds_toArray, List.set_cons_zero, List.set_cons_succ, i64_w, i32_w]
                       rfl
                      refine pure_ (i := 14) (N := some 16) (v := ?_) (a' := ?_) (bl 15 16) rfl rfl (any_of HT_.out (by kernel_rfl)) (fun _ _ _ h => h) (Or.inl ⟨by rfl, ?_⟩) ?_ ?_
                      rotate_left
                      ·intro w'
                       go_simp
                       with_reducible rfl
                      rotate_left
                      ·simp only [Act.put, List.setIfInBounds_toArray, List.set_cons_zero, List.set_cons_succ, i64_w, i32_w]
                       rfl
                      refine pure_ (i := 15) (N := some 17) (v := ?_) (a' := ?_) (bl 16 16) rfl rfl (any_of HT_.out (by kernel_rfl)) (fun _ _ _ h => h) (Or.inl ⟨by rfl, ?_⟩) ?_ ?_
                      rotate_left
                      ·intro w'
                       go_simp
                       with_reducible rfl
                      rotate_left
                      ·simp only [Act.put, List.setIfInBounds_toArray, List.set_cons_zero, List.set_cons_succ, i64_w, i32_w]
                       rfl
                      refine done_ (done_of HT_.out (by kernel_rfl)) ?_
                      try go_wp2
                      go_ret
                      exact ⟨by first | rfl | (simp [errW_none, errW_some] <;> rfl) | (simp only [← hji35]; first | rfl | (simp [errW_none, errW_some] <;> rfl)) | (simp [*, errW_none, errW_some] <;> rfl), by repeat (first | (with_reducible first | exact HB.out | apply below_alloc | apply pw_below_drewN | apply below_drew1) | exact HB.out)⟩
                     ·rw [if_neg c51] at H
                      have c51b0 : decide (t372 < 0) = false := decide_eq_false c51
                      clear c51
                      by_cases c56 : t374 < 0
                      ·rw [if_pos c56] at H
                       have c56b0 : decide (t374 < 0) = true := decide_eq_true c56
                       clear c56
                       obtain rfl := Option.some.inj H
                       obtain ⟨Ao57, co57, eo57⟩ := Kd.R_slice HO_10.out
                       subst eo57
                       try go_wp2
                       have n0_ := Aside0.mk (Kd.R_drew HO_10.out)
                       have n1_ := Aside0.mk (Kd.R_drew HO_13.out)
                       have n2_ := Aside0.mk (below_drew1 HB.out)
                       clear HO_10
                       clear HO_13
                       clear HB
                       have HO_10 := n0_
                       have HO_13 := n1_
                       have HB := n2_
                       clear n0_ n1_ n2_
                       have p371 : 0 ≤ (x15_6 : Int) := of_decide_eq_true (by first | (with_reducible assumption) | assumption)
                       have q371 : x15_6 < (t363.length : Int) := of_decide_eq_true (by first | (with_reducible assumption) | assumption)
                       obtain ⟨ad371, e371, hx371_0, hx371_1, hx371_2, hx371_3⟩ := at_T36 (Kd.R_reads' HO_10.out).2.2 x15_6 p371 q371
                       cases e371
                       replace p371 := eq_true p371
                       replace q371 := eq_true q371
                       have p373 : 0 ≤ (x15_6 : Int) := of_decide_eq_true (by first | (with_reducible assumption) | assumption)
                       have q373 : x15_6 < (t363.length : Int) := of_decide_eq_true (by first | (with_reducible assumption) | assumption)
                       obtain ⟨ad373, e373, hx373_0, hx373_1, hx373_2, hx373_3⟩ := at_T36 (Kd.R_reads' HO_10.out).2.2 x15_6 p373 q373
                       obtain rfl : ad371 = ad373 := (by injection e373)
                       replace p373 := eq_true p373
                       replace q373 := eq_true q373
                       refine start_ (n := 16) (S := fun w' => w'.cell? (ad371.add ((x15_6).toNat * 4)) = some (.int .i64 ((rd_T36 t363 x15_6).f0.f0)) ∧ w'.cell? ⟨(ad371.add ((x15_6).toNat * 4)).block, (ad371.add ((x15_6).toNat * 4)).off + 1, none⟩ = some (.int .i64 ((rd_T36 t363 x15_6).f0.f1)) ∧ w'.cell? ⟨(ad371.add ((x15_6).toNat * 4)).block, (ad371.add ((x15_6).toNat * 4)).off + 2, none⟩ = some (.int .i64 ((rd_T36 t363 x15_6).f1.f0)) ∧ w'.cell? ⟨(ad371.add ((x15_6).toNat * 4)).block, (ad371.add ((x15_6).toNat * 4)).off + 3, none⟩ = some (.int .i64 ((rd_T36 t363 x15_6).f1.f1)) ∧ w'.cell? (ad371.add ((x15_6).toNat * 4)) = some (.int .i64 ((rd_T36 t363 x15_6).f0.f0)) ∧ w'.cell? ⟨(ad371.add ((x15_6).toNat * 4)).block, (ad371.add ((x15_6).toNat * 4)).off + 1, none⟩ = some (.int .i64 ((rd_T36 t363 x15_6).f0.f1)) ∧ w'.cell? ⟨(ad371.add ((x15_6).toNat * 4)).block, (ad371.add ((x15_6).toNat * 4)).off + 2, none⟩ = some (.int .i64 ((rd_T36 t363 x15_6).f1.f0)) ∧ w'.cell? ⟨(ad371.add ((x15_6).toNat * 4)).block, (ad371.add ((x15_6).toNat * 4)).off + 3, none⟩ = some (.int .i64 ((rd_T36 t363 x15_6).f1.f1))) (ds := []) (bl 0 16) (by kernel_rfl) rfl rfl ⟨hx371_0, hx371_1, hx371_2, hx371_3, hx373_0, hx373_1, hx373_2, hx373_3⟩ (fun hHeld => ?_); refine with_tabW quernlaw13_MovesLong.tab29 quernlaw13_MovesLong.bits29 (fun HT_ HW_ => ?_)
                       generalize wr.drew = w58 at HO_10 HO_13 HB hx371_0 hx371_1 hx371_2 hx371_3 hx373_0 hx373_1 hx373_2 hx373_3 hHeld ⊢
                       refine pure_ (i := 0) (N := some 98) (v := ?_) (a' := ?_) (bl 1 16) rfl rfl (any_of HT_.out (by kernel_rfl)) (fun _ _ _ h => h) (Or.inl ⟨by rfl, ?_⟩) ?_ ?_
                       rotate_left
                       ·intro w'
                        go_simp
                        with_reducible rfl
                       rotate_left
                       ·simp only [Act.put, List.setIfInBounds_toArray, List.set_cons_zero, List.set_cons_succ, i64_w, i32_w]
                        rfl
                       refine pure_ (i := 1) (N := some 99) (v := ?_) (a' := ?_) (bl 2 16) rfl rfl (any_of HT_.out (by kernel_rfl)) (fun _ _ _ h => h) (Or.inl ⟨by rfl, ?_⟩) ?_ ?_
                       rotate_left
                       ·intro w'
                        go_simp
                        with_reducible rfl
                       rotate_left
                       ·simp only [Act.put, List.setIfInBounds_toArray, List.set_cons_zero, List.set_cons_succ, i64_w, i32_w]
                        rfl
                       refine pure_ (i := 2) (N := some 100) (v := ?_) (a' := ?_) (bl 3 16) rfl rfl (any_of HT_.out (by kernel_rfl)) (fun _ _ _ h => h) (Or.inl ⟨by rfl, ?_⟩) ?_ ?_
                       rotate_left
                       ·intro w'
                        go_simp
                        with_reducible rfl
                       rotate_left
                       ·simp only [Act.put, List.setIfInBounds_toArray, List.set_cons_zero, List.set_cons_succ, i64_w, i32_w]
                        rfl
                       refine pure_ (i := 3) (N := some 101) (v := ?_) (a' := ?_) (bl 4 16) rfl rfl (any_of HT_.out (by kernel_rfl)) (fun _ _ _ h => h) (Or.inl ⟨by rfl, ?_⟩) ?_ ?_
                       rotate_left
                       ·intro w'
                        go_simp
                        with_reducible rfl
                       rotate_left
                       ·simp only [Act.put, List.setIfInBounds_toArray, List.set_cons_zero, List.set_cons_succ, i64_w, i32_w]
                        rfl
                       refine pure_ (i := 5) (N := some 103) (v := ?_) (a' := ?_) #[true, true, true, true, false, true, false, false, false, false, false, false, false, false, false, false] rfl rfl (any_of HT_.out (by kernel_rfl)) (fun _ _ _ h => h) (Or.inl ⟨by rfl, ?_⟩) ?_ ?_
                       rotate_left
                       ·intro w'
                        go_simp
                        with_reducible rfl
                       rotate_left
                       ·simp only [Act.put, List.setIfInBounds_toArray, List.set_cons_zero, List.set_cons_succ, i64_w, i32_w]
                        rfl
                       refine pure_ (i := 7) (N := some 105) (v := ?_) (a' := ?_) #[true, true, true, true, false, true, false, true, false, false, false, false, false, false, false, false] rfl rfl (any_of HT_.out (by kernel_rfl)) (fun _ _ _ h => h) (Or.inl ⟨by rfl, ?_⟩) ?_ ?_
                       rotate_left
                       ·intro w'
                        go_simp
                        with_reducible rfl
                       rotate_left
                       ·simp only [Act.put, List.setIfInBounds_toArray, List.set_cons_zero, List.set_cons_succ, i64_w, i32_w]
                        rfl
                       refine pure_ (i := 8) (N := some 106) (v := ?_) (a' := ?_) #[true, true, true, true, false, true, false, true, true, false, false, false, false, false, false, false] rfl rfl (any_of HT_.out (by kernel_rfl)) (fun _ _ _ h => h) (Or.inl ⟨by rfl, ?_⟩) ?_ ?_
                       rotate_left
                       ·intro w'
                        go_simp
                        with_reducible rfl
                       rotate_left
                       ·simp only [Act.put, List.setIfInBounds_toArray, List.set_cons_zero, List.set_cons_succ, i64_w, i32_w]
                        rfl
                       refine pure_ (i := 9) (N := some 107) (v := ?_) (a' := ?_) #[true, true, true, true, false, true, false, true, true, true, false, false, false, false, false, false] rfl rfl (any_of HT_.out (by kernel_rfl)) (fun _ _ _ h => h) (Or.inl ⟨by rfl, ?_⟩) ?_ ?_
                       rotate_left
                       ·intro w'
                        go_simp
                        with_reducible rfl
                       rotate_left
                       ·simp only [Act.put, List.setIfInBounds_toArray, List.set_cons_zero, List.set_cons_succ, i64_w, i32_w]
                        rfl
                       refine pure_ (i := 10) (N := some 108) (v := ?_) (a' := ?_) #[true, true, true, true, false, true, false, true, true, true, true, false, false, false, false, false] rfl rfl (any_of HT_.out (by kernel_rfl)) (fun _ _ _ h => h) (Or.inl ⟨by rfl, ?_⟩) ?_ ?_
                       rotate_left
                       ·intro w'
                        go_simp
                        with_reducible rfl
                       rotate_left
                       ·simp only [Act.put, List.setIfInBounds_toArray, List.set_cons_zero, List.set_cons_succ, i64_w, i32_w]
                        rfl
                       refine pure_ (i := 12) (N := some 110) (v := ?_) (a' := ?_) #[true, true, true, true, false, true, false, true, true, true, true, false, true, false, false, false] rfl rfl (any_of HT_.out (by kernel_rfl)) (fun _ _ _ h => h) (Or.inl ⟨by rfl, ?_⟩) ?_ ?_
                       rotate_left
                       ·intro w'
                        go_simp
                        with_reducible rfl
                       rotate_left
                       ·simp only [Act.put, List.setIfInBounds_toArray, List.set_cons_zero, List.set_cons_succ, i64_w, i32_w]
                        rfl
                       refine take_ (i := 4) (N := some 102) (v := ?_) (a' := ?_) #[true, true, true, true, true, true, false, true, true, true, true, false, true, false, false, false] rfl rfl (take_ofW HT_.out HW_.out (by kernel_rfl)) (fun _ _ _ h => h) (Or.inl ⟨by rfl, ?_⟩) hHeld ?_ ?_
                       rotate_left
                       ·rintro w' ⟨s0, s1, s2, s3, s4, s5, s6, s7⟩
                        go_simp
                        with_reducible rfl
                       rotate_left
                       ·simp only [Act.put, List.setIfInBounds_toArray, List.set_cons_zero, List.set_cons_succ, i64_w, i32_w]
                        rfl
                       refine take_ (i := 11) (N := some 109) (v := ?_) (a' := ?_) #[true, true, true, true, true, true, false, true, true, true, true, true, true, false, false, false] rfl rfl (take_ofW HT_.out HW_.out (by kernel_rfl)) (fun _ _ _ h => h) (Or.inl ⟨by rfl, ?_⟩) hHeld ?_ ?_
                       rotate_left
                       ·rintro w' ⟨s0, s1, s2, s3, s4, s5, s6, s7⟩
                        go_simp
                        with_reducible rfl
                       rotate_left
                       ·simp only [Act.put, List.setIfInBounds_toArray, List.set_cons_zero, List.set_cons_succ, i64_w, i32_w]
                        rfl
                       refine one_ (i := 6) (N := some 104) (bl 13 16) rfl rfl (one_of HT_.out (by kernel_rfl)) (by decide) (fun K hK => ?_)
                       refine goes_ Try.func18 (by kernel_rfl) rfl #[.agg #[.int .i64 ((rd_T36 t363 x15_6).f1.f0), .int .i64 ((rd_T36 t363 x15_6).f1.f1)], .int .i64 a0] (by rfl) rfl rfl (by (try simp only [List.map_toArray, List.map_cons, List.map_nil]); first | done | rfl | (simp only [List.length_drop, List.length_take]; rfl)) ?_
                       with_reducible refine (quernlaw13_place.calls ((rd_T36 t363 x15_6).f1.f0) ((rd_T36 t363 x15_6).f1.f1) a0 t372 _ A49.out).mono ?_
                       rintro e w59 ⟨rfl, hb⟩
                       have HS0_ := (hb.cell (World.block_lt_of_cell? _ _ (hHeld.1))).trans (hHeld.1)
                       have HS1_ := (hb.cell (World.block_lt_of_cell? _ _ (hHeld.2.1))).trans (hHeld.2.1)
                       have HS2_ := (hb.cell (World.block_lt_of_cell? _ _ (hHeld.2.2.1))).trans (hHeld.2.2.1)
                       have HS3_ := (hb.cell (World.block_lt_of_cell? _ _ (hHeld.2.2.2.1))).trans (hHeld.2.2.2.1)
                       have HS4_ := (hb.cell (World.block_lt_of_cell? _ _ (hHeld.2.2.2.2.1))).trans (hHeld.2.2.2.2.1)
                       have HS5_ := (hb.cell (World.block_lt_of_cell? _ _ (hHeld.2.2.2.2.2.1))).trans (hHeld.2.2.2.2.2.1)
                       have HS6_ := (hb.cell (World.block_lt_of_cell? _ _ (hHeld.2.2.2.2.2.2.1))).trans (hHeld.2.2.2.2.2.2.1)
                       have HS7_ := (hb.cell (World.block_lt_of_cell? _ _ (hHeld.2.2.2.2.2.2.2))).trans (hHeld.2.2.2.2.2.2.2)
                       refine ⟨_, rfl, ?_⟩
                       have n0_ := Aside0.mk (Kd.R_below (by (with_reducible repeat (first | apply Kd.R_alloc | apply Kd.R_drewN | apply Kd.R_drew)); exact HO_10.out) hb)
                       have n1_ := Aside0.mk (Kd.R_below (by (with_reducible repeat (first | apply Kd.R_alloc | apply Kd.R_drewN | apply Kd.R_drew)); exact HO_13.out) hb)
                       have n2_ := Aside0.mk (below_step (by repeat (first | (with_reducible first | exact HB.out | apply below_alloc | apply pw_below_drewN | apply below_drew1) | exact HB.out)) hb)
                       clear HO_10
                       clear HO_13
                       clear HB
                       have HO_10 := n0_
                       have HO_13 := n1_
                       have HB := n2_
                       clear n0_ n1_ n2_
                       (try clear hb)
                       (try clear hb2)
                       (try clear hk)
                       (try clear hi)
                       refine hK.out _ _ ⟨HS0_, HS1_, HS2_, HS3_, HS4_, HS5_, HS6_, HS7_⟩ (fun hHeld => ?_)
                       clear hK K
                       refine norm_ (a' := ?_) ?_ ?_
                       rotate_left
                       ·show Act.put _ (some 104) _ = _
                        simp only [Act.put, List.setIfInBounds_toArray, List.set_cons_zero, List.set_cons_succ, i64_w, i32_w]
                        rfl
                       refine one_ (i := 13) (N := some 111) (bl 14 16) rfl rfl (one_of HT_.out (by kernel_rfl)) (by decide) (fun K hK => ?_)
                       refine goes_ Try.func18 (by kernel_rfl) rfl #[.agg #[.int .i64 ((rd_T36 t363 x15_6).f0.f0), .int .i64 ((rd_T36 t363 x15_6).f0.f1)], .int .i64 a0] (by rfl) rfl rfl (by (try simp only [List.map_toArray, List.map_cons, List.map_nil]); first | done | rfl | (simp only [List.length_drop, List.length_take]; rfl)) ?_
                       with_reducible refine (quernlaw13_place.calls ((rd_T36 t363 x15_6).f0.f0) ((rd_T36 t363 x15_6).f0.f1) a0 t374 _ A50.out).mono ?_
                       rintro e w60 ⟨rfl, hb⟩
                       have HS0_ := (hb.cell (World.block_lt_of_cell? _ _ (hHeld.1))).trans (hHeld.1)
                       have HS1_ := (hb.cell (World.block_lt_of_cell? _ _ (hHeld.2.1))).trans (hHeld.2.1)
                       have HS2_ := (hb.cell (World.block_lt_of_cell? _ _ (hHeld.2.2.1))).trans (hHeld.2.2.1)
                       have HS3_ := (hb.cell (World.block_lt_of_cell? _ _ (hHeld.2.2.2.1))).trans (hHeld.2.2.2.1)
                       have HS4_ := (hb.cell (World.block_lt_of_cell? _ _ (hHeld.2.2.2.2.1))).trans (hHeld.2.2.2.2.1)
                       have HS5_ := (hb.cell (World.block_lt_of_cell? _ _ (hHeld.2.2.2.2.2.1))).trans (hHeld.2.2.2.2.2.1)
                       have HS6_ := (hb.cell (World.block_lt_of_cell? _ _ (hHeld.2.2.2.2.2.2.1))).trans (hHeld.2.2.2.2.2.2.1)
                       have HS7_ := (hb.cell (World.block_lt_of_cell? _ _ (hHeld.2.2.2.2.2.2.2))).trans (hHeld.2.2.2.2.2.2.2)
                       refine ⟨_, rfl, ?_⟩
                       have n0_ := Aside0.mk (Kd.R_below (by (with_reducible repeat (first | apply Kd.R_alloc | apply Kd.R_drewN | apply Kd.R_drew)); exact HO_10.out) hb)
                       have n1_ := Aside0.mk (Kd.R_below (by (with_reducible repeat (first | apply Kd.R_alloc | apply Kd.R_drewN | apply Kd.R_drew)); exact HO_13.out) hb)
                       have n2_ := Aside0.mk (below_step (by repeat (first | (with_reducible first | exact HB.out | apply below_alloc | apply pw_below_drewN | apply below_drew1) | exact HB.out)) hb)
                       clear HO_10
                       clear HO_13
                       clear HB
                       have HO_10 := n0_
                       have HO_13 := n1_
                       have HB := n2_
                       clear n0_ n1_ n2_
                       (try clear hb)
                       (try clear hb2)
                       (try clear hk)
                       (try clear hi)
                       refine hK.out _ _ ⟨HS0_, HS1_, HS2_, HS3_, HS4_, HS5_, HS6_, HS7_⟩ (fun hHeld => ?_)
                       clear hK K
                       refine norm_ (a' := ?_) ?_ ?_
                       rotate_left
                       ·show Act.put _ (some 111) _ = _
                        simp only [Act.put, List.setIfInBounds_toArray, List.set_cons_zero, List.set_cons_succ, i64_w, i32_w]
                        rfl
                       refine pure_ (i := 14) (N := some 16) (v := ?_) (a' := ?_) (bl 15 16) rfl rfl (any_of HT_.out (by kernel_rfl)) (fun _ _ _ h => h) (Or.inl ⟨by rfl, ?_⟩) ?_ ?_
                       rotate_left
                       ·intro w'
                        go_simp
                        with_reducible rfl
                       rotate_left
                       ·simp only [Act.put, List.setIfInBounds_toArray, List.set_cons_zero, List.set_cons_succ, i64_w, i32_w]
                        rfl
                       refine pure_ (i := 15) (N := some 17) (v := ?_) (a' := ?_) (bl 16 16) rfl rfl (any_of HT_.out (by kernel_rfl)) (fun _ _ _ h => h) (Or.inl ⟨by rfl, ?_⟩) ?_ ?_
                       rotate_left
                       ·intro w'
                        go_simp
                        with_reducible rfl
                       rotate_left
                       ·simp only [Act.put, List.setIfInBounds_toArray, List.set_cons_zero, List.set_cons_succ, i64_w, i32_w]
                        rfl
                       refine done_ (done_of HT_.out (by kernel_rfl)) ?_
                       try go_wp2
                       go_ret
                       exact ⟨by first | rfl | (simp [errW_none, errW_some] <;> rfl) | (simp only [← hji35]; first | rfl | (simp [errW_none, errW_some] <;> rfl)) | (simp [*, errW_none, errW_some] <;> rfl), by repeat (first | (with_reducible first | exact HB.out | apply below_alloc | apply pw_below_drewN | apply below_drew1) | exact HB.out)⟩
                      ·rw [if_neg c56] at H
                       have c56b0 : decide (t374 < 0) = false := decide_eq_false c56
                       clear c56
                       by_cases c61 : 0 ≤ t372
                       ·rw [if_pos c61] at H
                        have c61b0 : decide (0 ≤ t372) = true := decide_eq_true c61
                        clear c61
                        by_cases c62 : t372 < (x13_6.length : Int)
                        ·rw [if_pos c62] at H
                         have c62b0 : decide (t372 < (x13_6.length : Int)) = true := decide_eq_true c62
                         clear c62
                         by_cases c63 : 0 ≤ t374
                         ·rw [if_pos c63] at H
                          have c63b0 : decide (0 ≤ t374) = true := decide_eq_true c63
                          clear c63
                          by_cases c64 : t374 < (x13_6.length : Int)
                          ·rw [if_pos c64] at H
                           have c64b0 : decide (t374 < (x13_6.length : Int)) = true := decide_eq_true c64
                           clear c64
                           obtain ⟨y376, hy376⟩ : ∃ y_ : List Int, y_ = (x13_6.set (t374 : Int).toNat (rd x13_6 t372)) := ⟨_, rfl⟩
                           replace H : (quernlaw13_MovesLong.l2 k6 a0 a1 t348 t363 y376 (wrap64 (x15_6 + 1))) = some r := by first | (rw [hy376]; with_reducible exact H) | (have H2_ := (Option.bind_some _ _).symm.trans H; rw [hy376]; with_reducible exact H2_) | (have H2_ := (Option.bind_some _ _).symm.trans H; with_reducible exact H2_) | with_reducible exact H | (rw [hy376]; exact H) | exact H
                           have Ny376 := Aside0.mk hy376
                           clear hy376
                           have H' := Aside0.mk H
                           clear H
                           obtain ⟨Ao66, co66, eo66⟩ := Kd.R_slice HO_10.out
                           subst eo66
                           try go_wp2
                           have n0_ := Aside0.mk (Kd.R_drew HO_10.out)
                           have n1_ := Aside0.mk (Kd.R_drew HO_13.out)
                           have n2_ := Aside0.mk (below_drew1 HB.out)
                           clear HO_10
                           clear HO_13
                           clear HB
                           have HO_10 := n0_
                           have HO_13 := n1_
                           have HB := n2_
                           clear n0_ n1_ n2_
                           have p371 : 0 ≤ (x15_6 : Int) := of_decide_eq_true (by first | (with_reducible assumption) | assumption)
                           have q371 : x15_6 < (t363.length : Int) := of_decide_eq_true (by first | (with_reducible assumption) | assumption)
                           obtain ⟨ad371, e371, hx371_0, hx371_1, hx371_2, hx371_3⟩ := at_T36 (Kd.R_reads' HO_10.out).2.2 x15_6 p371 q371
                           cases e371
                           replace p371 := eq_true p371
                           replace q371 := eq_true q371
                           have p373 : 0 ≤ (x15_6 : Int) := of_decide_eq_true (by first | (with_reducible assumption) | assumption)
                           have q373 : x15_6 < (t363.length : Int) := of_decide_eq_true (by first | (with_reducible assumption) | assumption)
                           obtain ⟨ad373, e373, hx373_0, hx373_1, hx373_2, hx373_3⟩ := at_T36 (Kd.R_reads' HO_10.out).2.2 x15_6 p373 q373
                           obtain rfl : ad371 = ad373 := (by injection e373)
                           replace p373 := eq_true p373
                           replace q373 := eq_true q373
                           refine start_ (n := 16) (S := fun w' => w'.cell? (ad371.add ((x15_6).toNat * 4)) = some (.int .i64 ((rd_T36 t363 x15_6).f0.f0)) ∧ w'.cell? ⟨(ad371.add ((x15_6).toNat * 4)).block, (ad371.add ((x15_6).toNat * 4)).off + 1, none⟩ = some (.int .i64 ((rd_T36 t363 x15_6).f0.f1)) ∧ w'.cell? ⟨(ad371.add ((x15_6).toNat * 4)).block, (ad371.add ((x15_6).toNat * 4)).off + 2, none⟩ = some (.int .i64 ((rd_T36 t363 x15_6).f1.f0)) ∧ w'.cell? ⟨(ad371.add ((x15_6).toNat * 4)).block, (ad371.add ((x15_6).toNat * 4)).off + 3, none⟩ = some (.int .i64 ((rd_T36 t363 x15_6).f1.f1)) ∧ w'.cell? (ad371.add ((x15_6).toNat * 4)) = some (.int .i64 ((rd_T36 t363 x15_6).f0.f0)) ∧ w'.cell? ⟨(ad371.add ((x15_6).toNat * 4)).block, (ad371.add ((x15_6).toNat * 4)).off + 1, none⟩ = some (.int .i64 ((rd_T36 t363 x15_6).f0.f1)) ∧ w'.cell? ⟨(ad371.add ((x15_6).toNat * 4)).block, (ad371.add ((x15_6).toNat * 4)).off + 2, none⟩ = some (.int .i64 ((rd_T36 t363 x15_6).f1.f0)) ∧ w'.cell? ⟨(ad371.add ((x15_6).toNat * 4)).block, (ad371.add ((x15_6).toNat * 4)).off + 3, none⟩ = some (.int .i64 ((rd_T36 t363 x15_6).f1.f1))) (ds := []) (bl 0 16) (by kernel_rfl) rfl rfl ⟨hx371_0, hx371_1, hx371_2, hx371_3, hx373_0, hx373_1, hx373_2, hx373_3⟩ (fun hHeld => ?_); refine with_tabW quernlaw13_MovesLong.tab29 quernlaw13_MovesLong.bits29 (fun HT_ HW_ => ?_)
                           generalize wr.drew = w67 at HO_10 HO_13 HB hx371_0 hx371_1 hx371_2 hx371_3 hx373_0 hx373_1 hx373_2 hx373_3 hHeld ⊢
                           refine pure_ (i := 0) (N := some 98) (v := ?_) (a' := ?_) (bl 1 16) rfl rfl (any_of HT_.out (by kernel_rfl)) (fun _ _ _ h => h) (Or.inl ⟨by rfl, ?_⟩) ?_ ?_
                           rotate_left
                           ·intro w'
                            go_simp
                            with_reducible rfl
                           rotate_left
                           ·simp only [Act.put, List.setIfInBounds_toArray, List.set_cons_zero, List.set_cons_succ, i64_w, i32_w]
                            rfl
                           refine pure_ (i := 1) (N := some 99) (v := ?_) (a' := ?_) (bl 2 16) rfl rfl (any_of HT_.out (by kernel_rfl)) (fun _ _ _ h => h) (Or.inl ⟨by rfl, ?_⟩) ?_ ?_
                           rotate_left
                           ·intro w'
                            go_simp
                            with_reducible rfl
                           rotate_left
                           ·simp only [Act.put, List.setIfInBounds_toArray, List.set_cons_zero, List.set_cons_succ, i64_w, i32_w]
                            rfl
                           refine pure_ (i := 2) (N := some 100) (v := ?_) (a' := ?_) (bl 3 16) rfl rfl (any_of HT_.out (by kernel_rfl)) (fun _ _ _ h => h) (Or.inl ⟨by rfl, ?_⟩) ?_ ?_
                           rotate_left
                           ·intro w'
                            go_simp
                            with_reducible rfl
                           rotate_left
                           ·simp only [Act.put, List.setIfInBounds_toArray, List.set_cons_zero, List.set_cons_succ, i64_w, i32_w]
                            rfl
                           refine pure_ (i := 3) (N := some 101) (v := ?_) (a' := ?_) (bl 4 16) rfl rfl (any_of HT_.out (by kernel_rfl)) (fun _ _ _ h => h) (Or.inl ⟨by rfl, ?_⟩) ?_ ?_
                           rotate_left
                           ·intro w'
                            go_simp
                            with_reducible rfl
                           rotate_left
                           ·simp only [Act.put, List.setIfInBounds_toArray, List.set_cons_zero, List.set_cons_succ, i64_w, i32_w]
                            rfl
                           refine pure_ (i := 5) (N := some 103) (v := ?_) (a' := ?_) #[true, true, true, true, false, true, false, false, false, false, false, false, false, false, false, false] rfl rfl (any_of HT_.out (by kernel_rfl)) (fun _ _ _ h => h) (Or.inl ⟨by rfl, ?_⟩) ?_ ?_
                           rotate_left
                           ·intro w'
                            go_simp
                            with_reducible rfl
                           rotate_left
                           ·simp only [Act.put, List.setIfInBounds_toArray, List.set_cons_zero, List.set_cons_succ, i64_w, i32_w]
                            rfl
                           refine pure_ (i := 7) (N := some 105) (v := ?_) (a' := ?_) #[true, true, true, true, false, true, false, true, false, false, false, false, false, false, false, false] rfl rfl (any_of HT_.out (by kernel_rfl)) (fun _ _ _ h => h) (Or.inl ⟨by rfl, ?_⟩) ?_ ?_
                           rotate_left
                           ·intro w'
                            go_simp
                            with_reducible rfl
                           rotate_left
                           ·simp only [Act.put, List.setIfInBounds_toArray, List.set_cons_zero, List.set_cons_succ, i64_w, i32_w]
                            rfl
                           refine pure_ (i := 8) (N := some 106) (v := ?_) (a' := ?_) #[true, true, true, true, false, true, false, true, true, false, false, false, false, false, false, false] rfl rfl (any_of HT_.out (by kernel_rfl)) (fun _ _ _ h => h) (Or.inl ⟨by rfl, ?_⟩) ?_ ?_
                           rotate_left
                           ·intro w'
                            go_simp
                            with_reducible rfl
                           rotate_left
                           ·simp only [Act.put, List.setIfInBounds_toArray, List.set_cons_zero, List.set_cons_succ, i64_w, i32_w]
                            rfl
                           refine pure_ (i := 9) (N := some 107) (v := ?_) (a' := ?_) #[true, true, true, true, false, true, false, true, true, true, false, false, false, false, false, false] rfl rfl (any_of HT_.out (by kernel_rfl)) (fun _ _ _ h => h) (Or.inl ⟨by rfl, ?_⟩) ?_ ?_
                           rotate_left
                           ·intro w'
                            go_simp
                            with_reducible rfl
                           rotate_left
                           ·simp only [Act.put, List.setIfInBounds_toArray, List.set_cons_zero, List.set_cons_succ, i64_w, i32_w]
                            rfl
                           refine pure_ (i := 10) (N := some 108) (v := ?_) (a' := ?_) #[true, true, true, true, false, true, false, true, true, true, true, false, false, false, false, false] rfl rfl (any_of HT_.out (by kernel_rfl)) (fun _ _ _ h => h) (Or.inl ⟨by rfl, ?_⟩) ?_ ?_
                           rotate_left
                           ·intro w'
                            go_simp
                            with_reducible rfl
                           rotate_left
                           ·simp only [Act.put, List.setIfInBounds_toArray, List.set_cons_zero, List.set_cons_succ, i64_w, i32_w]
                            rfl
                           refine pure_ (i := 12) (N := some 110) (v := ?_) (a' := ?_) #[true, true, true, true, false, true, false, true, true, true, true, false, true, false, false, false] rfl rfl (any_of HT_.out (by kernel_rfl)) (fun _ _ _ h => h) (Or.inl ⟨by rfl, ?_⟩) ?_ ?_
                           rotate_left
                           ·intro w'
                            go_simp
                            with_reducible rfl
                           rotate_left
                           ·simp only [Act.put, List.setIfInBounds_toArray, List.set_cons_zero, List.set_cons_succ, i64_w, i32_w]
                            rfl
                           refine take_ (i := 4) (N := some 102) (v := ?_) (a' := ?_) #[true, true, true, true, true, true, false, true, true, true, true, false, true, false, false, false] rfl rfl (take_ofW HT_.out HW_.out (by kernel_rfl)) (fun _ _ _ h => h) (Or.inl ⟨by rfl, ?_⟩) hHeld ?_ ?_
                           rotate_left
                           ·rintro w' ⟨s0, s1, s2, s3, s4, s5, s6, s7⟩
                            go_simp
                            with_reducible rfl
                           rotate_left
                           ·simp only [Act.put, List.setIfInBounds_toArray, List.set_cons_zero, List.set_cons_succ, i64_w, i32_w]
                            rfl
                           refine take_ (i := 11) (N := some 109) (v := ?_) (a' := ?_) #[true, true, true, true, true, true, false, true, true, true, true, true, true, false, false, false] rfl rfl (take_ofW HT_.out HW_.out (by kernel_rfl)) (fun _ _ _ h => h) (Or.inl ⟨by rfl, ?_⟩) hHeld ?_ ?_
                           rotate_left
                           ·rintro w' ⟨s0, s1, s2, s3, s4, s5, s6, s7⟩
                            go_simp
                            with_reducible rfl
                           rotate_left
                           ·simp only [Act.put, List.setIfInBounds_toArray, List.set_cons_zero, List.set_cons_succ, i64_w, i32_w]
                            rfl
                           refine one_ (i := 6) (N := some 104) (bl 13 16) rfl rfl (one_of HT_.out (by kernel_rfl)) (by decide) (fun K hK => ?_)
                           refine goes_ Try.func18 (by kernel_rfl) rfl #[.agg #[.int .i64 ((rd_T36 t363 x15_6).f1.f0), .int .i64 ((rd_T36 t363 x15_6).f1.f1)], .int .i64 a0] (by rfl) rfl rfl (by (try simp only [List.map_toArray, List.map_cons, List.map_nil]); first | done | rfl | (simp only [List.length_drop, List.length_take]; rfl)) ?_
                           with_reducible refine (quernlaw13_place.calls ((rd_T36 t363 x15_6).f1.f0) ((rd_T36 t363 x15_6).f1.f1) a0 t372 _ A49.out).mono ?_
                           rintro e w68 ⟨rfl, hb⟩
                           have HS0_ := (hb.cell (World.block_lt_of_cell? _ _ (hHeld.1))).trans (hHeld.1)
                           have HS1_ := (hb.cell (World.block_lt_of_cell? _ _ (hHeld.2.1))).trans (hHeld.2.1)
                           have HS2_ := (hb.cell (World.block_lt_of_cell? _ _ (hHeld.2.2.1))).trans (hHeld.2.2.1)
                           have HS3_ := (hb.cell (World.block_lt_of_cell? _ _ (hHeld.2.2.2.1))).trans (hHeld.2.2.2.1)
                           have HS4_ := (hb.cell (World.block_lt_of_cell? _ _ (hHeld.2.2.2.2.1))).trans (hHeld.2.2.2.2.1)
                           have HS5_ := (hb.cell (World.block_lt_of_cell? _ _ (hHeld.2.2.2.2.2.1))).trans (hHeld.2.2.2.2.2.1)
                           have HS6_ := (hb.cell (World.block_lt_of_cell? _ _ (hHeld.2.2.2.2.2.2.1))).trans (hHeld.2.2.2.2.2.2.1)
                           have HS7_ := (hb.cell (World.block_lt_of_cell? _ _ (hHeld.2.2.2.2.2.2.2))).trans (hHeld.2.2.2.2.2.2.2)
                           refine ⟨_, rfl, ?_⟩
                           have n0_ := Aside0.mk (Kd.R_below (by (with_reducible repeat (first | apply Kd.R_alloc | apply Kd.R_drewN | apply Kd.R_drew)); exact HO_10.out) hb)
                           have n1_ := Aside0.mk (Kd.R_below (by (with_reducible repeat (first | apply Kd.R_alloc | apply Kd.R_drewN | apply Kd.R_drew)); exact HO_13.out) hb)
                           have n2_ := Aside0.mk (below_step (by repeat (first | (with_reducible first | exact HB.out | apply below_alloc | apply pw_below_drewN | apply below_drew1) | exact HB.out)) hb)
                           clear HO_10
                           clear HO_13
                           clear HB
                           have HO_10 := n0_
                           have HO_13 := n1_
                           have HB := n2_
                           clear n0_ n1_ n2_
                           (try clear hb)
                           (try clear hb2)
                           (try clear hk)
                           (try clear hi)
                           refine hK.out _ _ ⟨HS0_, HS1_, HS2_, HS3_, HS4_, HS5_, HS6_, HS7_⟩ (fun hHeld => ?_)
                           clear hK K
                           refine norm_ (a' := ?_) ?_ ?_
                           rotate_left
                           ·show Act.put _ (some 104) _ = _
                            simp only [Act.put, List.setIfInBounds_toArray, List.set_cons_zero, List.set_cons_succ, i64_w, i32_w]
                            rfl
                           refine one_ (i := 13) (N := some 111) (bl 14 16) rfl rfl (one_of HT_.out (by kernel_rfl)) (by decide) (fun K hK => ?_)
                           refine goes_ Try.func18 (by kernel_rfl) rfl #[.agg #[.int .i64 ((rd_T36 t363 x15_6).f0.f0), .int .i64 ((rd_T36 t363 x15_6).f0.f1)], .int .i64 a0] (by rfl) rfl rfl (by (try simp only [List.map_toArray, List.map_cons, List.map_nil]); first | done | rfl | (simp only [List.length_drop, List.length_take]; rfl)) ?_
                           with_reducible refine (quernlaw13_place.calls ((rd_T36 t363 x15_6).f0.f0) ((rd_T36 t363 x15_6).f0.f1) a0 t374 _ A50.out).mono ?_
                           rintro e w69 ⟨rfl, hb⟩
                           have HS0_ := (hb.cell (World.block_lt_of_cell? _ _ (hHeld.1))).trans (hHeld.1)
                           have HS1_ := (hb.cell (World.block_lt_of_cell? _ _ (hHeld.2.1))).trans (hHeld.2.1)
                           have HS2_ := (hb.cell (World.block_lt_of_cell? _ _ (hHeld.2.2.1))).trans (hHeld.2.2.1)
                           have HS3_ := (hb.cell (World.block_lt_of_cell? _ _ (hHeld.2.2.2.1))).trans (hHeld.2.2.2.1)
                           have HS4_ := (hb.cell (World.block_lt_of_cell? _ _ (hHeld.2.2.2.2.1))).trans (hHeld.2.2.2.2.1)
                           have HS5_ := (hb.cell (World.block_lt_of_cell? _ _ (hHeld.2.2.2.2.2.1))).trans (hHeld.2.2.2.2.2.1)
                           have HS6_ := (hb.cell (World.block_lt_of_cell? _ _ (hHeld.2.2.2.2.2.2.1))).trans (hHeld.2.2.2.2.2.2.1)
                           have HS7_ := (hb.cell (World.block_lt_of_cell? _ _ (hHeld.2.2.2.2.2.2.2))).trans (hHeld.2.2.2.2.2.2.2)
                           refine ⟨_, rfl, ?_⟩
                           have n0_ := Aside0.mk (Kd.R_below (by (with_reducible repeat (first | apply Kd.R_alloc | apply Kd.R_drewN | apply Kd.R_drew)); exact HO_10.out) hb)
                           have n1_ := Aside0.mk (Kd.R_below (by (with_reducible repeat (first | apply Kd.R_alloc | apply Kd.R_drewN | apply Kd.R_drew)); exact HO_13.out) hb)
                           have n2_ := Aside0.mk (below_step (by repeat (first | (with_reducible first | exact HB.out | apply below_alloc | apply pw_below_drewN | apply below_drew1) | exact HB.out)) hb)
                           clear HO_10
                           clear HO_13
                           clear HB
                           have HO_10 := n0_
                           have HO_13 := n1_
                           have HB := n2_
                           clear n0_ n1_ n2_
                           (try clear hb)
                           (try clear hb2)
                           (try clear hk)
                           (try clear hi)
                           refine hK.out _ _ ⟨HS0_, HS1_, HS2_, HS3_, HS4_, HS5_, HS6_, HS7_⟩ (fun hHeld => ?_)
                           clear hK K
                           refine norm_ (a' := ?_) ?_ ?_
                           rotate_left
                           ·show Act.put _ (some 111) _ = _
                            simp only [Act.put, List.setIfInBounds_toArray, List.set_cons_zero, List.set_cons_succ, i64_w, i32_w]
                            rfl
                           refine pure_ (i := 14) (N := some 16) (v := ?_) (a' := ?_) (bl 15 16) rfl rfl (any_of HT_.out (by kernel_rfl)) (fun _ _ _ h => h) (Or.inl ⟨by rfl, ?_⟩) ?_ ?_
                           rotate_left
                           ·intro w'
                            go_simp
                            with_reducible rfl
                           rotate_left
                           ·simp only [Act.put, List.setIfInBounds_toArray, List.set_cons_zero, List.set_cons_succ, i64_w, i32_w]
                            rfl
                           refine pure_ (i := 15) (N := some 17) (v := ?_) (a' := ?_) (bl 16 16) rfl rfl (any_of HT_.out (by kernel_rfl)) (fun _ _ _ h => h) (Or.inl ⟨by rfl, ?_⟩) ?_ ?_
                           rotate_left
                           ·intro w'
                            go_simp
                            with_reducible rfl
                           rotate_left
                           ·simp only [Act.put, List.setIfInBounds_toArray, List.set_cons_zero, List.set_cons_succ, i64_w, i32_w]
                            rfl
                           refine done_ (done_of HT_.out (by kernel_rfl)) ?_
                           have p375 : 0 ≤ (t372 : Int) := of_decide_eq_true (by first | (with_reducible assumption) | assumption)
                           have q375 : t372 < (x13_6.length : Int) := of_decide_eq_true (by first | (with_reducible assumption) | assumption)
                           obtain ⟨ad375, e375, hx375_0⟩ := Kd.at_int (Kd.R_reads' HO_13.out).2.2 t372 p375 q375
                           cases e375
                           replace p375 := eq_true p375
                           replace q375 := eq_true q375
                           have p65 : 0 ≤ (t374 : Int) := of_decide_eq_true (by first | (with_reducible assumption) | assumption)
                           have q65 : (t374 : Int) < ((x13_6.length : Int) : Int) := of_decide_eq_true (by first | (with_reducible assumption) | assumption)
                           obtain ⟨go65, co65, eo65, gb65, gl65, cl65, HG65⟩ := Kd.R_form HO_13.out (by omega)
                           (first | cases eo65 | (injection eo65 with ea_ en_ ec_; (first | subst ea_ | (injection ea_ with ea_; subst ea_)); subst ec_; clear en_))
                           have GB65 := Aside0.mk gb65
                           have GG65 := Aside0.mk HG65
                           clear gb65 gl65 HG65
                           (first | simp only [add_plain] at hx375_0 | skip)
                           obtain ⟨hx65_0, hf65_0⟩ := Kd.R_celln 0 HO_13.out (t374 : Int) p65 q65
                           replace p65 := eq_true p65
                           replace q65 := eq_true q65
                           obtain ⟨hy70_, hz70_⟩ := Kd.R_celln 0 HO_13.out (t374 : Int) (of_decide_eq_true (by first | (with_reducible assumption) | assumption)) (of_decide_eq_true (by first | (with_reducible assumption) | assumption))
                           have HP70 := Kd.R_putg HO_13.out (t374 : Int) (rd x13_6 t372)
                           try go_wp2_with (first | ((with_reducible refine gate_store (t := 3) (p := 124) rfl ?_); refine store_event (t := 3) (p := 124) (v := ?vo_w71) (w1 := (w69.setCell ⟨go65, (t374 : Int).toNat, none⟩ (.int .i64 (rd x13_6 t372)))) ?hg ?ho ?hn ?hr ?_; (case ho => rfl); (case hg => rfl); (case hn => rfl); (case hr => first | (go_simp; done) | (go_simp; rfl)); intro w71 hw; have hg : w69.grownBy w71 (some go65) := (by rw [hw]; exact HP70.2); have hp_ : Kd.R (Kd.int .i64) 3 w71 w.heap.size (fun _ => True) (.slice (some ⟨go65, 0, none⟩) x13_6.length co46) y376 := (by rw [hw, Ny376.out]; exact HP70.1); clear HP70; have n0_ := Aside0.mk (Kd.R_over' (v := (.slice (some ⟨go65, 0, none⟩) x13_6.length co46)) (by (with_reducible repeat (first | apply Kd.R_alloc | apply Kd.R_drewN | apply Kd.R_drew)); exact HO_10.out) (Kd.R_typed HO_13.out) (by decide) hg); have n1_ := Aside0.mk (hp_); have n2_ := Aside0.mk ((by rw [hw]; exact below_set (HB.out) GB65.out : Below w.heap.size w w71)); clear HO_10; clear HO_13; clear HB; have HO_10 := n0_; have HO_13 := n1_; have HB := n2_; clear n0_ n1_ n2_; clear hg hw hp_))
                           (try simp only [← hl13_6])
                           go_roundg k6
                           case measure => have := HJ3.out; have := HK2.out; have := HJ26.out; have := HJ30.out; have := HK5.out; have := HK6.out; omega
                           case rel => exact ⟨(y376), (wrap64 (x15_6 + 1)), (by first | rfl | (simp; done) | (simp [*]; done)), H', ⟨by have := HJ3.out; have := HK2.out; have := HJ26.out; have := HJ30.out; have := HK5.out; have := HK6.out; omega⟩, ⟨by (try simp only [hl13_6]); (with_reducible repeat (first | apply Kd.R_alloc | apply Kd.R_drewN | apply Kd.R_drew)); exact HO_10.out⟩, ⟨by (try simp only [hl13_6]); (with_reducible repeat (first | apply Kd.R_alloc | apply Kd.R_drewN | apply Kd.R_drew)); exact HO_13.out⟩, ⟨by repeat (first | (with_reducible first | exact HB.out | apply below_alloc | apply pw_below_drewN | apply below_drew1) | exact HB.out)⟩⟩
                          ·rw [if_neg c64] at H
                           exact absurd H (by simp)
                         ·rw [if_neg c63] at H
                          exact absurd H (by simp)
                        ·rw [if_neg c62] at H
                         exact absurd H (by simp)
                       ·rw [if_neg c61] at H
                        exact absurd H (by simp)
                    ·rw [if_neg c48] at H
                     exact absurd H (by simp)
                   ·rw [if_neg c47] at H
                    have c47b0 : decide (x15_6 < (t363.length : Int)) = false := decide_eq_false c47
                    clear c47
                    have H' := Aside0.mk H
                    clear H
                    obtain ⟨Ao72, co72, eo72⟩ := Kd.R_slice HO_10.out
                    subst eo72
                    go_wp2
                    go_loopg [18] k6 (fun kq v18 w' => ∃ (x18_7 : Int), v18 = .int .i64 x18_7 ∧ Aside0 (quernlaw13_MovesLong.l3 kq a0 a1 t348 x13_6 x18_7 = some r) ∧ Aside0 (kq ≤ k6) ∧ Aside0 (Kd.R (Kd.int .i64) 3 w' w.heap.size (fun _ => True) (.slice Ao46 x13_6.length co46) x13_6) ∧ Aside0 (Below w.heap.size w w'))
                    case atStart => exact ⟨(0), (by first | rfl | (simp; done) | (simp [*]; done)), H', ⟨Nat.le_refl _⟩, ⟨by (try simp only [hl13_6]); (with_reducible repeat (first | apply Kd.R_alloc | apply Kd.R_drewN | apply Kd.R_drew)); exact HO_13.out⟩, ⟨by repeat (first | (with_reducible first | exact HB.out | apply below_alloc | apply pw_below_drewN | apply below_drew1) | exact HB.out)⟩⟩
                    case round =>
                     clear H'
                     try clear c1
                     try clear p2
                     try clear p3
                     try clear q3
                     try clear hx3
                     try clear c4
                     try clear c5
                     try clear c6
                     try clear p6
                     try clear q6
                     try clear hx6
                     try clear hf6
                     try clear c18
                     try clear p37
                     try clear q37
                     try clear hx37
                     try clear c47
                     try clear c47b0
                     try clear c48
                     try clear c51
                     try clear c51b0
                     try clear c56
                     try clear c56b0
                     try clear c61
                     try clear c61b0
                     try clear c62
                     try clear c62b0
                     try clear c63
                     try clear c63b0
                     try clear c64
                     try clear c64b0
                     try clear p64
                     try clear p65
                     try clear q65
                     try clear hx65
                     try clear hf65
                     try clear hx371_0
                     try clear hx371_1
                     try clear hx371_2
                     try clear hx371_3
                     try clear hx373_0
                     try clear hx373_1
                     try clear hx373_2
                     try clear hx373_3
                     try clear hx375_0
                     try clear hx65_0
                     try clear p371
                     try clear p373
                     try clear p375
                     try clear p65
                     try clear q371
                     try clear q373
                     try clear q375
                     try clear q65
                     obtain ⟨x18_7, rfl, HA, HK7, HO_13, HB⟩ := hrel
                     cases gk with
                     | zero => exact absurd HA.out (by simp [quernlaw13_MovesLong.l3])
                     | succ k7 =>
                      have H := HA.out
                      clear HA
                      simp only [quernlaw13_MovesLong.l3] at H
                      by_cases c73 : x18_7 < a0
                      ·rw [if_pos c73] at H
                       have c73b0 : decide (x18_7 < a0) = true := decide_eq_true c73
                       clear c73
                       have HC74 := Aside0.mk H
                       clear H
                       go_upto_region 37 with (fail)
                       go_cut [139] (fun v139 wc => ∃ (kq : Nat) (x139_73 : Bool), v139 = .bool x139_73 ∧ Aside0 (quernlaw13_MovesLong.j9 kq a0 a1 t348 x13_6 x18_7 (wrap64 (x18_7 + 1)) x139_73 = some r) ∧ Aside0 (kq ≤ k7) ∧ Aside0 (Kd.R (Kd.int .i64) 3 wc w.heap.size (fun _ => True) (.slice Ao46 x13_6.length co46) x13_6) ∧ Aside0 (Below w.heap.size w wc))
                       case first =>
                        have H := HC74.out
                        clear HC74
                        by_cases c75 : (Go.bits .and .i64 a1 2) = 2
                        ·rw [if_pos c75] at H
                         have c75b0 : ((Go.bits .and .i64 a1 2) == 2) = true := beq_iff_eq.mpr c75
                         have c75b1 : ((Go.bits .and .i64 a1 2) != 2) = false := bne_eq_false_iff_eq.mpr c75
                         clear c75
                         (first | rw [c75b0] | (simp only [i64_w, i32_w]; rw [c75b0]) | skip)
                         have H' := Aside0.mk H
                         clear H
                         go_wp2
                         go_meet
                         case rel => exact ⟨_, (((wrap64 (x18_7 + 1)) == a0)), (by first | rfl | (simp; done) | (simp [*]; done)), H', ⟨by have := HJ3.out; have := HK2.out; have := HJ26.out; have := HJ30.out; have := HK5.out; have := HK6.out; have := HK7.out; first | omega | exact Nat.le_refl _⟩, ⟨by (try simp only [hl13_6]); (with_reducible repeat (first | apply Kd.R_alloc | apply Kd.R_drewN | apply Kd.R_drew)); exact HO_13.out⟩, ⟨by repeat (first | (with_reducible first | exact HB.out | apply below_alloc | apply pw_below_drewN | apply below_drew1) | exact HB.out)⟩⟩
                        ·rw [if_neg c75] at H
                         have c75b0 : ((Go.bits .and .i64 a1 2) == 2) = false := beq_eq_false_iff_ne.mpr c75
                         have c75b1 : ((Go.bits .and .i64 a1 2) != 2) = true := bne_iff_ne.mpr c75
                         (first | rw [c75b0] | (simp only [i64_w, i32_w]; rw [c75b0]) | skip)
                         have H' := Aside0.mk H
                         clear H
                         go_wp2
                         go_meet
                         case rel => exact ⟨_, (false), (by first | rfl | (simp; done) | (simp [*]; done)), H', ⟨by have := HJ3.out; have := HK2.out; have := HJ26.out; have := HJ30.out; have := HK5.out; have := HK6.out; have := HK7.out; first | omega | exact Nat.le_refl _⟩, ⟨by (try simp only [hl13_6]); (with_reducible repeat (first | apply Kd.R_alloc | apply Kd.R_drewN | apply Kd.R_drew)); exact HO_13.out⟩, ⟨by repeat (first | (with_reducible first | exact HB.out | apply below_alloc | apply pw_below_drewN | apply below_drew1) | exact HB.out)⟩⟩
                       case rest =>
                        clear HC74
                        try clear c1
                        try clear p2
                        try clear p3
                        try clear q3
                        try clear hx3
                        try clear c4
                        try clear c5
                        try clear c6
                        try clear p6
                        try clear q6
                        try clear hx6
                        try clear hf6
                        try clear c7
                        try clear c18
                        try clear p37
                        try clear q37
                        try clear hx37
                        try clear c47
                        try clear c47b0
                        try clear c48
                        try clear c51
                        try clear c51b0
                        try clear c56
                        try clear c56b0
                        try clear c61
                        try clear c61b0
                        try clear c62
                        try clear c62b0
                        try clear c63
                        try clear c63b0
                        try clear c64
                        try clear c64b0
                        try clear p64
                        try clear p65
                        try clear q65
                        try clear hx65
                        try clear hf65
                        try clear c73
                        try clear c73b0
                        try clear c75
                        try clear c75b0
                        try clear c75b1
                        try clear hx371_0
                        try clear hx371_1
                        try clear hx371_2
                        try clear hx371_3
                        try clear hx373_0
                        try clear hx373_1
                        try clear hx373_2
                        try clear hx373_3
                        try clear hx375_0
                        try clear hx65_0
                        try clear p2
                        try clear p3
                        try clear p37
                        try clear p371
                        try clear p373
                        try clear p375
                        try clear p6
                        try clear p64
                        try clear p65
                        try clear q3
                        try clear q37
                        try clear q371
                        try clear q373
                        try clear q375
                        try clear q6
                        try clear q65
                        obtain ⟨kq, x139_73, rfl, HA, HJ73, HO_13, HB⟩ := hcut
                        cases kq with
                        | zero => exact absurd HA.out (by simp [quernlaw13_MovesLong.j9])
                        | succ kj73 =>
                         have H := HA.out
                         clear HA
                         simp only [quernlaw13_MovesLong.j9] at H
                         by_cases c76 : x139_73 = true
                         ·subst c76
                          have H1 : (if 0 ≤ x18_7 then (if x18_7 < (x13_6.length : Int) then (if (rd x13_6 x18_7) = 0 then (quernlaw13_MovesLong.l3 kj73 a0 a1 t348 x13_6 (wrap64 (x18_7 + 1))) else (some false)) else (none)) else (none)) = some r := by rw [if_pos rfl] at H; exact H
                          clear H
                          have H := H1
                          clear H1
                          by_cases c77 : 0 ≤ x18_7
                          ·rw [if_pos c77] at H
                           have c77b0 : decide (0 ≤ x18_7) = true := decide_eq_true c77
                           clear c77
                           by_cases c78 : x18_7 < (x13_6.length : Int)
                           ·rw [if_pos c78] at H
                            have c78b0 : decide (x18_7 < (x13_6.length : Int)) = true := decide_eq_true c78
                            clear c78
                            by_cases c79 : (rd x13_6 x18_7) = 0
                            ·rw [if_pos c79] at H
                             have c79b0 : ((rd x13_6 x18_7) == 0) = true := beq_iff_eq.mpr c79
                             have c79b1 : ((rd x13_6 x18_7) != 0) = false := bne_eq_false_iff_eq.mpr c79
                             clear c79
                             have H' := Aside0.mk H
                             clear H
                             have p377 : 0 ≤ (x18_7 : Int) := of_decide_eq_true (by first | (with_reducible assumption) | assumption)
                             have q377 : x18_7 < (x13_6.length : Int) := of_decide_eq_true (by first | (with_reducible assumption) | assumption)
                             obtain ⟨ad377, e377, hx377_0⟩ := Kd.at_int (Kd.R_reads' HO_13.out).2.2 x18_7 p377 q377
                             cases e377
                             replace p377 := eq_true p377
                             replace q377 := eq_true q377
                             go_wp2
                             go_roundg kj73
                             case measure => have := HJ3.out; have := HK2.out; have := HJ26.out; have := HJ30.out; have := HK5.out; have := HK6.out; have := HK7.out; have := HJ73.out; omega
                             case rel => exact ⟨(wrap64 (x18_7 + 1)), (by first | rfl | (simp; done) | (simp [*]; done)), H', ⟨by have := HJ3.out; have := HK2.out; have := HJ26.out; have := HJ30.out; have := HK5.out; have := HK6.out; have := HK7.out; have := HJ73.out; omega⟩, ⟨by (try simp only [hl13_6]); (with_reducible repeat (first | apply Kd.R_alloc | apply Kd.R_drewN | apply Kd.R_drew)); exact HO_13.out⟩, ⟨by repeat (first | (with_reducible first | exact HB.out | apply below_alloc | apply pw_below_drewN | apply below_drew1) | exact HB.out)⟩⟩
                            ·rw [if_neg c79] at H
                             have c79b0 : ((rd x13_6 x18_7) == 0) = false := beq_eq_false_iff_ne.mpr c79
                             have c79b1 : ((rd x13_6 x18_7) != 0) = true := bne_iff_ne.mpr c79
                             obtain rfl := Option.some.inj H
                             have p377 : 0 ≤ (x18_7 : Int) := of_decide_eq_true (by first | (with_reducible assumption) | assumption)
                             have q377 : x18_7 < (x13_6.length : Int) := of_decide_eq_true (by first | (with_reducible assumption) | assumption)
                             obtain ⟨ad377, e377, hx377_0⟩ := Kd.at_int (Kd.R_reads' HO_13.out).2.2 x18_7 p377 q377
                             cases e377
                             replace p377 := eq_true p377
                             replace q377 := eq_true q377
                             go_wp2
                             go_ret
                             exact ⟨by first | rfl | (simp [errW_none, errW_some] <;> rfl) | (simp only [← hji35]; first | rfl | (simp [errW_none, errW_some] <;> rfl)) | (simp [*, errW_none, errW_some] <;> rfl), by repeat (first | (with_reducible first | exact HB.out | apply below_alloc | apply pw_below_drewN | apply below_drew1) | exact HB.out)⟩
                           ·rw [if_neg c78] at H
                            exact absurd H (by simp)
                          ·rw [if_neg c77] at H
                           exact absurd H (by simp)
                         ·replace c76 := Bool.eq_false_iff.mpr c76
                          subst c76
                          have H1 : (if 0 ≤ x18_7 then (if x18_7 < (x13_6.length : Int) then (if (rd x13_6 x18_7) = (wrap64 (x18_7 + 1)) then (quernlaw13_MovesLong.l3 kj73 a0 a1 t348 x13_6 (wrap64 (x18_7 + 1))) else (some false)) else (none)) else (none)) = some r := by rw [if_neg (show ¬ (false = true) by decide)] at H; exact H
                          clear H
                          have H := H1
                          clear H1
                          by_cases c80 : 0 ≤ x18_7
                          ·rw [if_pos c80] at H
                           have c80b0 : decide (0 ≤ x18_7) = true := decide_eq_true c80
                           clear c80
                           by_cases c81 : x18_7 < (x13_6.length : Int)
                           ·rw [if_pos c81] at H
                            have c81b0 : decide (x18_7 < (x13_6.length : Int)) = true := decide_eq_true c81
                            clear c81
                            by_cases c82 : (rd x13_6 x18_7) = (wrap64 (x18_7 + 1))
                            ·rw [if_pos c82] at H
                             have c82b0 : ((rd x13_6 x18_7) == (wrap64 (x18_7 + 1))) = true := beq_iff_eq.mpr c82
                             have c82b1 : ((rd x13_6 x18_7) != (wrap64 (x18_7 + 1))) = false := bne_eq_false_iff_eq.mpr c82
                             clear c82
                             have H' := Aside0.mk H
                             clear H
                             have p378 : 0 ≤ (x18_7 : Int) := of_decide_eq_true (by first | (with_reducible assumption) | assumption)
                             have q378 : x18_7 < (x13_6.length : Int) := of_decide_eq_true (by first | (with_reducible assumption) | assumption)
                             obtain ⟨ad378, e378, hx378_0⟩ := Kd.at_int (Kd.R_reads' HO_13.out).2.2 x18_7 p378 q378
                             cases e378
                             replace p378 := eq_true p378
                             replace q378 := eq_true q378
                             go_wp2
                             go_roundg kj73
                             case measure => have := HJ3.out; have := HK2.out; have := HJ26.out; have := HJ30.out; have := HK5.out; have := HK6.out; have := HK7.out; have := HJ73.out; omega
                             case rel => exact ⟨(wrap64 (x18_7 + 1)), (by first | rfl | (simp; done) | (simp [*]; done)), H', ⟨by have := HJ3.out; have := HK2.out; have := HJ26.out; have := HJ30.out; have := HK5.out; have := HK6.out; have := HK7.out; have := HJ73.out; omega⟩, ⟨by (try simp only [hl13_6]); (with_reducible repeat (first | apply Kd.R_alloc | apply Kd.R_drewN | apply Kd.R_drew)); exact HO_13.out⟩, ⟨by repeat (first | (with_reducible first | exact HB.out | apply below_alloc | apply pw_below_drewN | apply below_drew1) | exact HB.out)⟩⟩
                            ·rw [if_neg c82] at H
                             have c82b0 : ((rd x13_6 x18_7) == (wrap64 (x18_7 + 1))) = false := beq_eq_false_iff_ne.mpr c82
                             have c82b1 : ((rd x13_6 x18_7) != (wrap64 (x18_7 + 1))) = true := bne_iff_ne.mpr c82
                             obtain rfl := Option.some.inj H
                             have p378 : 0 ≤ (x18_7 : Int) := of_decide_eq_true (by first | (with_reducible assumption) | assumption)
                             have q378 : x18_7 < (x13_6.length : Int) := of_decide_eq_true (by first | (with_reducible assumption) | assumption)
                             obtain ⟨ad378, e378, hx378_0⟩ := Kd.at_int (Kd.R_reads' HO_13.out).2.2 x18_7 p378 q378
                             cases e378
                             replace p378 := eq_true p378
                             replace q378 := eq_true q378
                             go_wp2
                             go_ret
                             exact ⟨by first | rfl | (simp [errW_none, errW_some] <;> rfl) | (simp only [← hji35]; first | rfl | (simp [errW_none, errW_some] <;> rfl)) | (simp [*, errW_none, errW_some] <;> rfl), by repeat (first | (with_reducible first | exact HB.out | apply below_alloc | apply pw_below_drewN | apply below_drew1) | exact HB.out)⟩
                           ·rw [if_neg c81] at H
                            exact absurd H (by simp)
                          ·rw [if_neg c80] at H
                           exact absurd H (by simp)
                      ·rw [if_neg c73] at H
                       have c73b0 : decide (x18_7 < a0) = false := decide_eq_false c73
                       clear c73
                       obtain rfl := Option.some.inj H
                       go_wp2
                       go_ret
                       exact ⟨by first | rfl | (simp [errW_none, errW_some] <;> rfl) | (simp only [← hji35]; first | rfl | (simp [errW_none, errW_some] <;> rfl)) | (simp [*, errW_none, errW_some] <;> rfl), by repeat (first | (with_reducible first | exact HB.out | apply below_alloc | apply pw_below_drewN | apply below_drew1) | exact HB.out)⟩
             ·rw [if_neg c37] at H
              exact absurd H (by simp)
            ·rw [if_neg c36] at H
             exact absurd H (by simp)

/-- THE ONE PURE STATEMENT of quernlaw13_MovesLong: yours. -/
def quernlaw13_MovesLong.Pure : Prop := ∀ (a0 : Int) (a1 : Int), (Lit.int .i64 a0).wf = true → (Lit.int .i64 a1).wf = true → ∃ k, quernlaw13_MovesLong.f k a0 a1 = some true
theorem quernlaw13_MovesLong.walk (P : quernlaw13_MovesLong.Pure) (a0 : Int) (a1 : Int) (w : World) (w0 : (Lit.int .i64 a0).wf = true) (w1 : (Lit.int .i64 a1).wf = true) :
  Calls Try.prog 6 #[.int .i64 a0, .int .i64 a1] w fun e w' => e = .returned (.bool true) ∧ Below w.heap.size w w' := by
 obtain ⟨k, h⟩ := P a0 a1 w0 w1
 refine (quernlaw13_MovesLong.calls k a0 a1 true w h).mono ?_
 rintro e w' ⟨rfl, hd⟩
 exact ⟨rfl, hd⟩

end Go.Proofs.Ytameoapnhmoleaa.PP
