-- PRINTED by print.py (a twelfth state) out of the translation. Not trusted: Lean checks it.
import Derived.Test.YtameoapnhmoleaaPU
import Derived.Test.YtameoapnhmoleaaPP3
import Derived.Test.YtameoapnhmoleaaPQ7
namespace Go.Proofs.Ytameoapnhmoleaa.PP
open Go.RowKit Go.Proofs.YtameoapnhmoleaaW.PrintWords Go.Proofs.YtameoapnhmoleaaW.PrintLast Go.Proofs.YtameoapnhmoleaaW.PrintMore
attribute [local go_sem] max2_int min2_int max_two min_two max_three min_three max_four min_four   -- for this text's walks alone
set_option linter.unusedVariables false
set_option linter.unusedSimpArgs false

/-! ### quernref13_Order: function 12 -/
mutual
def quernref13_Order.l0 : Nat → List (S36) → List (S36) → Int → Int → Int → Option ((List (S36)) × Int)
 | 0, _, _, _, _, _ => none
 | k + 1, x0, x7, x8, x152000, x152001 => if x8 < (x0.length : Int) then (if 0 ≤ x8 then ((quernref13_Same.f ((rd_T36 x0 x8).f1.f0) ((rd_T36 x0 x8).f1.f1) ((rd_T36 x0 x8).f0.f0) ((rd_T36 x0 x8).f0.f1)).bind fun t155 => (if t155 = true then (quernref13_Order.l0 k x0 x7 (wrap64 (x8 + 1)) x152000 x152001) else (if x7.length < 4398046511104 then (quernref13_Order.l0 k x0 (x7 ++ [(⟨(⟨(rd_T36 x0 x8).f0.f0, (rd_T36 x0 x8).f0.f1⟩ : S24), (⟨(rd_T36 x0 x8).f1.f0, (rd_T36 x0 x8).f1.f1⟩ : S24)⟩ : S36)]) (wrap64 (x8 + 1)) x152000 x152001) else (none)))) else (none)) else (quernref13_Order.l1 k x7 ([] : List (S36)) x152000 x152001)
def quernref13_Order.l1 : Nat → List (S36) → List (S36) → Int → Int → Option ((List (S36)) × Int)
 | 0, _, _, _, _ => none
 | k + 1, x7, x9, x152000, x152001 => if (x7.length : Int) > 0 then (quernref13_Order.l2 k x7 x9 0 x152000 x152001) else (some (x9, 0))
def quernref13_Order.l2 : Nat → List (S36) → List (S36) → Int → Int → Int → Option ((List (S36)) × Int)
 | 0, _, _, _, _, _ => none
 | k + 1, x7, x9, x10, x152000, x152001 => if x10 < (x7.length : Int) then (if 0 ≤ x10 then ((quernref13_read.f k x7 ((rd_T36 x7 x10).f0.f0) ((rd_T36 x7 x10).f0.f1)).bind fun t161 => (if t161 = true then (quernref13_Order.l2 k x7 x9 (wrap64 (x10 + 1)) x152000 x152001) else (if x10 = (x7.length : Int) then (if 0 < (x7.length : Int) then (if x9.length < 4398046511104 then (quernref13_Order.l1 k (x7.set (0 : Int).toNat (⟨(⟨(rd_T36 x7 0).f0.f0, (rd_T36 x7 0).f0.f1⟩ : S24), (⟨x152000, x152001⟩ : S24)⟩ : S36)) (x9 ++ [(⟨(⟨x152000, x152001⟩ : S24), (⟨(rd_T36 x7 0).f1.f0, (rd_T36 x7 0).f1.f1⟩ : S24)⟩ : S36)]) x152000 x152001) else (none)) else (none)) else (if x9.length < 4398046511104 then (if x10 ≤ (x7.length : Int) then (if 0 ≤ (wrap64 (x10 + 1)) then (if (wrap64 (x10 + 1)) ≤ (x7.length : Int) then (quernref13_Order.l1 k (x7.eraseIdx (x10 : Int).toNat) (x9 ++ [(⟨(⟨(rd_T36 x7 x10).f0.f0, (rd_T36 x7 x10).f0.f1⟩ : S24), (⟨(rd_T36 x7 x10).f1.f0, (rd_T36 x7 x10).f1.f1⟩ : S24)⟩ : S36)]) x152000 x152001) else (none)) else (none)) else (none)) else (none))))) else (none)) else (if x10 = (x7.length : Int) then (if 0 < (x7.length : Int) then (if x9.length < 4398046511104 then (quernref13_Order.l1 k (x7.set (0 : Int).toNat (⟨(⟨(rd_T36 x7 0).f0.f0, (rd_T36 x7 0).f0.f1⟩ : S24), (⟨x152000, x152001⟩ : S24)⟩ : S36)) (x9 ++ [(⟨(⟨x152000, x152001⟩ : S24), (⟨(rd_T36 x7 0).f1.f0, (rd_T36 x7 0).f1.f1⟩ : S24)⟩ : S36)]) x152000 x152001) else (none)) else (none)) else (if 0 ≤ x10 then (none) else (none)))
end
def quernref13_Order.f (k : Nat) (l0 : List (S36)) (a1_0 : Int) (a1_1 : Int) : Option ((List (S36)) × Int) := (quernref13_Refuse.f k l0 a1_0 a1_1).bind fun t152 => (if t152 = 0 then (quernref13_Order.l0 k l0 ([] : List (S36)) 0 a1_0 a1_1) else (some (([] : List (S36)), t152)))
theorem quernref13_Order.mono_l : ∀ k, (∀ y0 y1 y2 y3 y4, LeO (quernref13_Order.l0 k y0 y1 y2 y3 y4) (quernref13_Order.l0 (k + 1) y0 y1 y2 y3 y4)) ∧ (∀ y0 y1 y2 y3, LeO (quernref13_Order.l1 k y0 y1 y2 y3) (quernref13_Order.l1 (k + 1) y0 y1 y2 y3)) ∧ (∀ y0 y1 y2 y3 y4, LeO (quernref13_Order.l2 k y0 y1 y2 y3 y4) (quernref13_Order.l2 (k + 1) y0 y1 y2 y3 y4))
 | 0 => ⟨fun _ _ _ _ _ r h => by simp [quernref13_Order.l0] at h, fun _ _ _ _ r h => by simp [quernref13_Order.l1] at h, fun _ _ _ _ _ r h => by simp [quernref13_Order.l2] at h⟩
 | k + 1 => by
  obtain ⟨ih0, ih1, ih2⟩ := quernref13_Order.mono_l k
  refine ⟨?_, ?_, ?_⟩
  ·intro y0 y1 y2 y3 y4
   unfold quernref13_Order.l0
   repeat' first
   | (with_reducible exact ih0 _ _ _ _ _)
   | (with_reducible exact ih1 _ _ _ _)
   | (with_reducible exact ih2 _ _ _ _ _)
   | (with_reducible exact quernref13_Refuse.mono _ _ _ _)
   | (with_reducible exact quernref13_read.mono _ _ _ _)
   | (with_reducible exact LeO.refl _)
   | (with_reducible exact LeO.none _)
   | (with_reducible refine LeO.ite ?_ ?_)
   | (with_reducible refine LeO.bind ?_ (fun _ => ?_))
   | exact ih0 _ _ _ _ _
   | exact ih1 _ _ _ _
   | exact ih2 _ _ _ _ _
   | exact quernref13_Refuse.mono _ _ _ _
   | exact quernref13_read.mono _ _ _ _
   | exact LeO.none _
   | refine LeO.ite ?_ ?_
   | refine LeO.bind ?_ (fun _ => ?_)
  ·intro y0 y1 y2 y3
   unfold quernref13_Order.l1
   repeat' first
   | (with_reducible exact ih0 _ _ _ _ _)
   | (with_reducible exact ih1 _ _ _ _)
   | (with_reducible exact ih2 _ _ _ _ _)
   | (with_reducible exact quernref13_Refuse.mono _ _ _ _)
   | (with_reducible exact quernref13_read.mono _ _ _ _)
   | (with_reducible exact LeO.refl _)
   | (with_reducible exact LeO.none _)
   | (with_reducible refine LeO.ite ?_ ?_)
   | (with_reducible refine LeO.bind ?_ (fun _ => ?_))
   | exact ih0 _ _ _ _ _
   | exact ih1 _ _ _ _
   | exact ih2 _ _ _ _ _
   | exact quernref13_Refuse.mono _ _ _ _
   | exact quernref13_read.mono _ _ _ _
   | exact LeO.none _
   | refine LeO.ite ?_ ?_
   | refine LeO.bind ?_ (fun _ => ?_)
  ·intro y0 y1 y2 y3 y4
   unfold quernref13_Order.l2
   repeat' first
   | (with_reducible exact ih0 _ _ _ _ _)
   | (with_reducible exact ih1 _ _ _ _)
   | (with_reducible exact ih2 _ _ _ _ _)
   | (with_reducible exact quernref13_Refuse.mono _ _ _ _)
   | (with_reducible exact quernref13_read.mono _ _ _ _)
   | (with_reducible exact LeO.refl _)
   | (with_reducible exact LeO.none _)
   | (with_reducible refine LeO.ite ?_ ?_)
   | (with_reducible refine LeO.bind ?_ (fun _ => ?_))
   | exact ih0 _ _ _ _ _
   | exact ih1 _ _ _ _
   | exact ih2 _ _ _ _ _
   | exact quernref13_Refuse.mono _ _ _ _
   | exact quernref13_read.mono _ _ _ _
   | exact LeO.none _
   | refine LeO.ite ?_ ?_
   | refine LeO.bind ?_ (fun _ => ?_)
theorem quernref13_Order.mono : ∀ a0 a1 a2 k, LeO (quernref13_Order.f k a0 a1 a2) (quernref13_Order.f (k + 1) a0 a1 a2) := by
 intro a0 a1 a2 k
 obtain ⟨ih0, ih1, ih2⟩ := quernref13_Order.mono_l k
 unfold quernref13_Order.f
 repeat' first
   | (with_reducible exact ih0 _ _ _ _ _)
   | (with_reducible exact ih1 _ _ _ _)
   | (with_reducible exact ih2 _ _ _ _ _)
   | (with_reducible exact quernref13_Refuse.mono _ _ _ _)
   | (with_reducible exact quernref13_read.mono _ _ _ _)
   | (with_reducible exact LeO.refl _)
   | (with_reducible exact LeO.none _)
   | (with_reducible refine LeO.ite ?_ ?_)
   | (with_reducible refine LeO.bind ?_ (fun _ => ?_))
   | exact ih0 _ _ _ _ _
   | exact ih1 _ _ _ _
   | exact ih2 _ _ _ _ _
   | exact quernref13_Refuse.mono _ _ _ _
   | exact quernref13_read.mono _ _ _ _
   | exact LeO.none _
   | refine LeO.ite ?_ ?_
   | refine LeO.bind ?_ (fun _ => ?_)
end Go.Proofs.Ytameoapnhmoleaa.PP
