-- PRINTED by print.py (a twelfth state) out of the translation. Not trusted: Lean checks it.
import Derived.Test.YtameoapnhmoleaaPU
import Derived.Test.YtameoapnhmoleaaPP3
namespace Go.Proofs.Ytameoapnhmoleaa.PP
open Go.RowKit Go.Proofs.YtameoapnhmoleaaW.PrintWords Go.Proofs.YtameoapnhmoleaaW.PrintLast Go.Proofs.YtameoapnhmoleaaW.PrintMore
attribute [local go_sem] max2_int min2_int max_two min_two max_three min_three max_four min_four   -- for this text's walks alone
set_option linter.unusedVariables false
set_option linter.unusedSimpArgs false

/-! ### quernref13_Refuse: function 26 -/
mutual
def quernref13_Refuse.l0 : Nat → List (S36) → Int → Int → Int → Option (Int)
 | 0, _, _, _, _ => none
 | k + 1, x0, x5, x131000, x131001 => if x5 < (x0.length : Int) then (if 0 ≤ x5 then ((quernref13_Place.f ((rd_T36 x0 x5).f0.f0) ((rd_T36 x0 x5).f0.f1)).bind fun t132 => (if t132 = true then ((quernref13_Place.f ((rd_T36 x0 x5).f1.f0) ((rd_T36 x0 x5).f1.f1)).bind fun t134 => (if t134 = true then ((quernref13_Same.f ((rd_T36 x0 x5).f0.f0) ((rd_T36 x0 x5).f0.f1) x131000 x131001).bind fun t136 => (if t136 = true then (some 131) else ((quernref13_Same.f ((rd_T36 x0 x5).f1.f0) ((rd_T36 x0 x5).f1.f1) x131000 x131001).bind fun t138 => (if t138 = true then (some 131) else (quernref13_Refuse.l0 k x0 (wrap64 (x5 + 1)) x131000 x131001))))) else (if ((rd_T36 x0 x5).f1.f0) = 3 then ((quernref13_Same.f ((rd_T36 x0 x5).f0.f0) ((rd_T36 x0 x5).f0.f1) x131000 x131001).bind fun t141 => (if t141 = true then (some 131) else ((quernref13_Same.f ((rd_T36 x0 x5).f1.f0) ((rd_T36 x0 x5).f1.f1) x131000 x131001).bind fun t143 => (if t143 = true then (some 131) else (quernref13_Refuse.l0 k x0 (wrap64 (x5 + 1)) x131000 x131001))))) else (some 131)))) else (some 131))) else (none)) else ((quernref13_Place.f x131000 x131001).bind fun t144 => (if t144 = true then (quernref13_Refuse.l1 k x0 0) else (some 131)))
def quernref13_Refuse.l1 : Nat → List (S36) → Int → Option (Int)
 | 0, _, _ => none
 | k + 1, x0, x6 => if x6 < (x0.length : Int) then (quernref13_Refuse.l2 k x0 x6 0) else (some 0)
def quernref13_Refuse.l2 : Nat → List (S36) → Int → Int → Option (Int)
 | 0, _, _, _ => none
 | k + 1, x0, x6, x7 => if x7 < x6 then (if 0 ≤ x6 then (if x6 < (x0.length : Int) then (if 0 ≤ x7 then (if x7 < (x0.length : Int) then ((quernref13_Same.f ((rd_T36 x0 x6).f0.f0) ((rd_T36 x0 x6).f0.f1) ((rd_T36 x0 x7).f0.f0) ((rd_T36 x0 x7).f0.f1)).bind fun t147 => (if t147 = true then (some 130) else (quernref13_Refuse.l2 k x0 x6 (wrap64 (x7 + 1))))) else (none)) else (none)) else (none)) else (none)) else (quernref13_Refuse.l1 k x0 (wrap64 (x6 + 1)))
end
def quernref13_Refuse.f (k : Nat) (l0 : List (S36)) (a1_0 : Int) (a1_1 : Int) : Option (Int) := quernref13_Refuse.l0 k l0 0 a1_0 a1_1
theorem quernref13_Refuse.mono_l : ∀ k, (∀ y0 y1 y2 y3, LeO (quernref13_Refuse.l0 k y0 y1 y2 y3) (quernref13_Refuse.l0 (k + 1) y0 y1 y2 y3)) ∧ (∀ y0 y1, LeO (quernref13_Refuse.l1 k y0 y1) (quernref13_Refuse.l1 (k + 1) y0 y1)) ∧ (∀ y0 y1 y2, LeO (quernref13_Refuse.l2 k y0 y1 y2) (quernref13_Refuse.l2 (k + 1) y0 y1 y2))
 | 0 => ⟨fun _ _ _ _ r h => by simp [quernref13_Refuse.l0] at h, fun _ _ r h => by simp [quernref13_Refuse.l1] at h, fun _ _ _ r h => by simp [quernref13_Refuse.l2] at h⟩
 | k + 1 => by
  obtain ⟨ih0, ih1, ih2⟩ := quernref13_Refuse.mono_l k
  refine ⟨?_, ?_, ?_⟩
  ·intro y0 y1 y2 y3
   unfold quernref13_Refuse.l0
   repeat' first
   | (with_reducible exact ih0 _ _ _ _)
   | (with_reducible exact ih1 _ _)
   | (with_reducible exact ih2 _ _ _)
   | (with_reducible exact LeO.refl _)
   | (with_reducible exact LeO.none _)
   | (with_reducible refine LeO.ite ?_ ?_)
   | (with_reducible refine LeO.bind ?_ (fun _ => ?_))
   | exact ih0 _ _ _ _
   | exact ih1 _ _
   | exact ih2 _ _ _
   | exact LeO.none _
   | refine LeO.ite ?_ ?_
   | refine LeO.bind ?_ (fun _ => ?_)
  ·intro y0 y1
   unfold quernref13_Refuse.l1
   repeat' first
   | (with_reducible exact ih0 _ _ _ _)
   | (with_reducible exact ih1 _ _)
   | (with_reducible exact ih2 _ _ _)
   | (with_reducible exact LeO.refl _)
   | (with_reducible exact LeO.none _)
   | (with_reducible refine LeO.ite ?_ ?_)
   | (with_reducible refine LeO.bind ?_ (fun _ => ?_))
   | exact ih0 _ _ _ _
   | exact ih1 _ _
   | exact ih2 _ _ _
   | exact LeO.none _
   | refine LeO.ite ?_ ?_
   | refine LeO.bind ?_ (fun _ => ?_)
  ·intro y0 y1 y2
   unfold quernref13_Refuse.l2
   repeat' first
   | (with_reducible exact ih0 _ _ _ _)
   | (with_reducible exact ih1 _ _)
   | (with_reducible exact ih2 _ _ _)
   | (with_reducible exact LeO.refl _)
   | (with_reducible exact LeO.none _)
   | (with_reducible refine LeO.ite ?_ ?_)
   | (with_reducible refine LeO.bind ?_ (fun _ => ?_))
   | exact ih0 _ _ _ _
   | exact ih1 _ _
   | exact ih2 _ _ _
   | exact LeO.none _
   | refine LeO.ite ?_ ?_
   | refine LeO.bind ?_ (fun _ => ?_)
theorem quernref13_Refuse.mono : ∀ a0 a1 a2 k, LeO (quernref13_Refuse.f k a0 a1 a2) (quernref13_Refuse.f (k + 1) a0 a1 a2) := by
 intro a0 a1 a2 k
 obtain ⟨ih0, ih1, ih2⟩ := quernref13_Refuse.mono_l k
 unfold quernref13_Refuse.f
 repeat' first
   | (with_reducible exact ih0 _ _ _ _)
   | (with_reducible exact ih1 _ _)
   | (with_reducible exact ih2 _ _ _)
   | (with_reducible exact LeO.refl _)
   | (with_reducible exact LeO.none _)
   | (with_reducible refine LeO.ite ?_ ?_)
   | (with_reducible refine LeO.bind ?_ (fun _ => ?_))
   | exact ih0 _ _ _ _
   | exact ih1 _ _
   | exact ih2 _ _ _
   | exact LeO.none _
   | refine LeO.ite ?_ ?_
   | refine LeO.bind ?_ (fun _ => ?_)
end Go.Proofs.Ytameoapnhmoleaa.PP
