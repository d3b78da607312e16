-- Printed by the kit's print.py (turned by patchprint.py, made shorter by squeeze.py, mine). Not trusted: Lean checks it.
import Derived.Test.YtameoapnhmoleaaPU
import Derived.Test.YtameoapnhmoleaaPP1
namespace Go.Proofs.Ytameoapnhmoleaa.PP
open Go.RowKit Go.Proofs.YtameoapnhmoleaaW.PrintWords Go.Proofs.YtameoapnhmoleaaW.PrintLast Go.Proofs.YtameoapnhmoleaaW.PrintMore
attribute [local go_sem] max2_int min2_int max_two min_two max_three min_three max_four min_four   -- for this text's walks alone
set_option linter.unusedVariables false
set_option linter.unusedSimpArgs false
attribute [local go_sem high] eqA24
/-! ### quernlaw13_circles: function 16 -/
mutual
def quernlaw13_circles.l0 : Nat → List (S36) → Int → Int → Option (Int)
 | 0, _, _, _ => none
 | k + 1, x0, x3, x4 => if x4 < (x0.length : Int) then (if 0 ≤ x4 then (if (((rd_T36 x0 x4).f1.f0) == ((rd_T36 x0 x4).f0.f0) && (((rd_T36 x0 x4).f1.f1) == ((rd_T36 x0 x4).f0.f1))) = true then (quernlaw13_circles.l0 k x0 x3 (wrap64 (x4 + 1))) else (quernlaw13_circles.l1 k x0 x3 x4 x4 true 0)) else (none)) else (some x3)
def quernlaw13_circles.l1 : Nat → List (S36) → Int → Int → Int → Bool → Int → Option (Int)
 | 0, _, _, _, _, _, _ => none
 | k + 1, x0, x3, x4, x5, x6, x7 => if x7 ≤ (x0.length : Int) then (quernlaw13_circles.l2 k x0 x3 x4 x5 x6 x7 (-1) 0) else (quernlaw13_circles.l0 k x0 x3 (wrap64 (x4 + 1)))
def quernlaw13_circles.l2 : Nat → List (S36) → Int → Int → Int → Bool → Int → Int → Int → Option (Int)
 | 0, _, _, _, _, _, _, _, _ => none
 | k + 1, x0, x3, x4, x5, x6, x7, x8, x9 => if x9 < (x0.length : Int) then (if 0 ≤ x9 then (if 0 ≤ x5 then (if x5 < (x0.length : Int) then (if (((rd_T36 x0 x9).f0.f0) == ((rd_T36 x0 x5).f1.f0) && (((rd_T36 x0 x9).f0.f1) == ((rd_T36 x0 x5).f1.f1))) = true then (if (!(((rd_T36 x0 x9).f1.f0) == ((rd_T36 x0 x9).f0.f0)) || (!(((rd_T36 x0 x9).f1.f1) == ((rd_T36 x0 x9).f0.f1)))) = true then (quernlaw13_circles.l2 k x0 x3 x4 x5 x6 x7 x9 (wrap64 (x9 + 1))) else (quernlaw13_circles.l2 k x0 x3 x4 x5 x6 x7 x8 (wrap64 (x9 + 1)))) else (quernlaw13_circles.l2 k x0 x3 x4 x5 x6 x7 x8 (wrap64 (x9 + 1)))) else (none)) else (none)) else (none)) else (if x8 < 0 then (quernlaw13_circles.l0 k x0 x3 (wrap64 (x4 + 1))) else (if x6 = true then (quernlaw13_circles.j3 k x0 x3 x4 (decide (x8 ≥ x4)) x7 x8) else (quernlaw13_circles.j3 k x0 x3 x4 false x7 x8)))
def quernlaw13_circles.j3 : Nat → List (S36) → Int → Int → Bool → Int → Int → Option (Int)
 | 0, _, _, _, _, _, _ => none
 | k + 1, x0, x3, x4, x6, x7, x8 => if x8 = x4 then (if x6 = true then (quernlaw13_circles.l0 k x0 (wrap64 (x3 + 1)) (wrap64 (x4 + 1))) else (quernlaw13_circles.l0 k x0 x3 (wrap64 (x4 + 1)))) else (quernlaw13_circles.l1 k x0 x3 x4 x8 x6 (wrap64 (x7 + 1)))
end
def quernlaw13_circles.f (k : Nat) (l0 : List (S36)) : Option (Int) := quernlaw13_circles.l0 k l0 0 0
theorem quernlaw13_circles.mono_l : ∀ k, (∀ y0 y1 y2, LeO (quernlaw13_circles.l0 k y0 y1 y2) (quernlaw13_circles.l0 (k + 1) y0 y1 y2)) ∧ (∀ y0 y1 y2 y3 y4 y5, LeO (quernlaw13_circles.l1 k y0 y1 y2 y3 y4 y5) (quernlaw13_circles.l1 (k + 1) y0 y1 y2 y3 y4 y5)) ∧ (∀ y0 y1 y2 y3 y4 y5 y6 y7, LeO (quernlaw13_circles.l2 k y0 y1 y2 y3 y4 y5 y6 y7) (quernlaw13_circles.l2 (k + 1) y0 y1 y2 y3 y4 y5 y6 y7)) ∧ (∀ y0 y1 y2 y3 y4 y5, LeO (quernlaw13_circles.j3 k y0 y1 y2 y3 y4 y5) (quernlaw13_circles.j3 (k + 1) y0 y1 y2 y3 y4 y5))
 | 0 => ⟨fun _ _ _ r h => by simp [quernlaw13_circles.l0] at h, fun _ _ _ _ _ _ r h => by simp [quernlaw13_circles.l1] at h, fun _ _ _ _ _ _ _ _ r h => by simp [quernlaw13_circles.l2] at h, fun _ _ _ _ _ _ r h => by simp [quernlaw13_circles.j3] at h⟩
 | k + 1 => by
  obtain ⟨ih0, ih1, ih2, ih3⟩ := quernlaw13_circles.mono_l k
  refine ⟨?_, ?_, ?_, ?_⟩
  ·intro y0 y1 y2
   unfold quernlaw13_circles.l0
   repeat' first
   | (with_reducible exact ih0 _ _ _)
   | (with_reducible exact ih1 _ _ _ _ _ _)
   | (with_reducible exact ih2 _ _ _ _ _ _ _ _)
   | (with_reducible exact ih3 _ _ _ _ _ _)
   | (with_reducible exact LeO.refl _)
   | (with_reducible exact LeO.none _)
   | (with_reducible refine LeO.ite ?_ ?_)
   | (with_reducible refine LeO.bind ?_ (fun _ => ?_))
   | exact ih0 _ _ _
   | exact ih1 _ _ _ _ _ _
   | exact ih2 _ _ _ _ _ _ _ _
   | exact ih3 _ _ _ _ _ _
   | exact LeO.none _
   | refine LeO.ite ?_ ?_
   | refine LeO.bind ?_ (fun _ => ?_)
  ·intro y0 y1 y2 y3 y4 y5
   unfold quernlaw13_circles.l1
   repeat' first
   | (with_reducible exact ih0 _ _ _)
   | (with_reducible exact ih1 _ _ _ _ _ _)
   | (with_reducible exact ih2 _ _ _ _ _ _ _ _)
   | (with_reducible exact ih3 _ _ _ _ _ _)
   | (with_reducible exact LeO.refl _)
   | (with_reducible exact LeO.none _)
   | (with_reducible refine LeO.ite ?_ ?_)
   | (with_reducible refine LeO.bind ?_ (fun _ => ?_))
   | exact ih0 _ _ _
   | exact ih1 _ _ _ _ _ _
   | exact ih2 _ _ _ _ _ _ _ _
   | exact ih3 _ _ _ _ _ _
   | exact LeO.none _
   | refine LeO.ite ?_ ?_
   | refine LeO.bind ?_ (fun _ => ?_)
  ·intro y0 y1 y2 y3 y4 y5 y6 y7
   unfold quernlaw13_circles.l2
   repeat' first
   | (with_reducible exact ih0 _ _ _)
   | (with_reducible exact ih1 _ _ _ _ _ _)
   | (with_reducible exact ih2 _ _ _ _ _ _ _ _)
   | (with_reducible exact ih3 _ _ _ _ _ _)
   | (with_reducible exact LeO.refl _)
   | (with_reducible exact LeO.none _)
   | (with_reducible refine LeO.ite ?_ ?_)
   | (with_reducible refine LeO.bind ?_ (fun _ => ?_))
   | exact ih0 _ _ _
   | exact ih1 _ _ _ _ _ _
   | exact ih2 _ _ _ _ _ _ _ _
   | exact ih3 _ _ _ _ _ _
   | exact LeO.none _
   | refine LeO.ite ?_ ?_
   | refine LeO.bind ?_ (fun _ => ?_)
  ·intro y0 y1 y2 y3 y4 y5
   unfold quernlaw13_circles.j3
   repeat' first
   | (with_reducible exact ih0 _ _ _)
   | (with_reducible exact ih1 _ _ _ _ _ _)
   | (with_reducible exact ih2 _ _ _ _ _ _ _ _)
   | (with_reducible exact ih3 _ _ _ _ _ _)
   | (with_reducible exact LeO.refl _)
   | (with_reducible exact LeO.none _)
   | (with_reducible refine LeO.ite ?_ ?_)
   | (with_reducible refine LeO.bind ?_ (fun _ => ?_))
   | exact ih0 _ _ _
   | exact ih1 _ _ _ _ _ _
   | exact ih2 _ _ _ _ _ _ _ _
   | exact ih3 _ _ _ _ _ _
   | exact LeO.none _
   | refine LeO.ite ?_ ?_
   | refine LeO.bind ?_ (fun _ => ?_)
theorem quernlaw13_circles.mono : ∀ a0 k, LeO (quernlaw13_circles.f k a0) (quernlaw13_circles.f (k + 1) a0) := by
 intro a0 k
 obtain ⟨ih0, ih1, ih2, ih3⟩ := quernlaw13_circles.mono_l k
 unfold quernlaw13_circles.f
 repeat' first
   | (with_reducible exact ih0 _ _ _)
   | (with_reducible exact ih1 _ _ _ _ _ _)
   | (with_reducible exact ih2 _ _ _ _ _ _ _ _)
   | (with_reducible exact ih3 _ _ _ _ _ _)
   | (with_reducible exact LeO.refl _)
   | (with_reducible exact LeO.none _)
   | (with_reducible refine LeO.ite ?_ ?_)
   | (with_reducible refine LeO.bind ?_ (fun _ => ?_))
   | exact ih0 _ _ _
   | exact ih1 _ _ _ _ _ _
   | exact ih2 _ _ _ _ _ _ _ _
   | exact ih3 _ _ _ _ _ _
   | exact LeO.none _
   | refine LeO.ite ?_ ?_
   | refine LeO.bind ?_ (fun _ => ?_)
set_option maxHeartbeats 8000000 in
set_option maxRecDepth 100000 in
theorem quernlaw13_circles.calls (k : Nat) (A0 : Option Addr) (c0 : Nat) (l0 : List (S36)) (r : Int) (w : World) (hr0 : Kd.C k36 w A0 l0.length l0) (hc0 : l0.length ≤ c0) (h : quernlaw13_circles.f k l0 = some r) :
  Calls Try.prog 16 #[.slice A0 l0.length c0] w fun e w' => e = .returned (.int .i64 r) ∧ Drawn0 w w' := by
 have hu24 := Try.underlying24
 have HR0 := Aside0.mk hr0
 have HC0 := Aside0.mk hc0
 clear hr0 hc0
 have H : (quernlaw13_circles.l0 k l0 0 0) = some r := h
 clear h
 have H' := Aside0.mk H
 clear H
 go_enter Try.func16, Try.ntmps16
 go_wp2
 repeat (go_quiet (fail); try go_wp2)
 go_loopg [3, 4] k (fun kq v3 v4 w' => ∃ (x3_1 : Int) (x4_1 : Int), v3 = .int .i64 x3_1 ∧ v4 = .int .i64 x4_1 ∧ Aside0 (quernlaw13_circles.l0 kq l0 x3_1 x4_1 = some r) ∧ Aside0 (kq ≤ k) ∧ Drawn0 w w')
 case atStart => exact ⟨(0), (0), (by first | rfl | (simp; done) | (simp [*]; done)), (by first | rfl | (simp; done) | (simp [*]; done)), H', ⟨Nat.le_refl _⟩, by repeat (first | exact Drawn0.refl _ | apply Drawn0.step)⟩
 case round =>
  clear H'
  try clear c1
  obtain ⟨x3_1, x4_1, rfl, rfl, HA, HK1, ⟨m1, rfl⟩⟩ := hrel
  cases gk with
  | zero => exact absurd HA.out (by simp [quernlaw13_circles.l0])
  | succ k1 =>
   have H := HA.out
   clear HA
   simp only [quernlaw13_circles.l0] at H
   by_cases c2 : x4_1 < (l0.length : Int)
   ·rw [if_pos c2] at H
    have c2b0 : decide (x4_1 < (l0.length : Int)) = true := decide_eq_true c2
    clear c2
    by_cases c3 : 0 ≤ x4_1
    ·rw [if_pos c3] at H
     have c3b0 : decide (0 ≤ x4_1) = true := decide_eq_true c3
     clear c3
     by_cases c4 : (((rd_T36 l0 x4_1).f1.f0) == ((rd_T36 l0 x4_1).f0.f0) && (((rd_T36 l0 x4_1).f1.f1) == ((rd_T36 l0 x4_1).f0.f1))) = true
     ·rw [if_pos c4] at H
      have c4b0 : (((rd_T36 l0 x4_1).f1.f0) == ((rd_T36 l0 x4_1).f0.f0) && (((rd_T36 l0 x4_1).f1.f1) == ((rd_T36 l0 x4_1).f0.f1))) = true := c4
      (try (have c4b1 : decide (((rd_T36 l0 x4_1).f1.f0) = ((rd_T36 l0 x4_1).f0.f0) && (((rd_T36 l0 x4_1).f1.f1) == ((rd_T36 l0 x4_1).f0.f1))) = true := by simpa using c4))
      (try (have c4b2 : (((rd_T36 l0 x4_1).f1.f0) == ((rd_T36 l0 x4_1).f0.f0) && (((rd_T36 l0 x4_1).f1.f1) == ((rd_T36 l0 x4_1).f0.f1))) = true := by simpa using c4))
      clear c4
      have H' := Aside0.mk H
      clear H
      have p324 : 0 ≤ (x4_1 : Int) := of_decide_eq_true (by first | (with_reducible assumption) | assumption)
      have q324 : x4_1 < (l0.length : Int) := of_decide_eq_true (by first | (with_reducible assumption) | assumption)
      obtain ⟨ad324, e324, hx324_0, hx324_1, hx324_2, hx324_3⟩ := at_T36 HR0.out x4_1 p324 q324
      cases e324
      replace p324 := eq_true p324
      replace q324 := eq_true q324
      have p325 : 0 ≤ (x4_1 : Int) := of_decide_eq_true (by first | (with_reducible assumption) | assumption)
      have q325 : x4_1 < (l0.length : Int) := of_decide_eq_true (by first | (with_reducible assumption) | assumption)
      obtain ⟨ad325, e325, hx325_0, hx325_1, hx325_2, hx325_3⟩ := at_T36 HR0.out x4_1 p325 q325
      obtain rfl : ad324 = ad325 := (by injection e325)
      replace p325 := eq_true p325
      replace q325 := eq_true q325
      go_wp2
      repeat (go_quiet (fail); try go_wp2)
      go_roundg k1
      case measure => have := HK1.out; omega
      case rel => exact ⟨(x3_1), (wrap64 (x4_1 + 1)), (by first | rfl | (simp; done) | (simp [*]; done)), (by first | rfl | (simp; done) | (simp [*]; done)), H', ⟨by have := HK1.out; omega⟩, by repeat (first | exact Drawn0.refl _ | apply Drawn0.step)⟩
     ·rw [if_neg c4] at H
      have c4b0 : (((rd_T36 l0 x4_1).f1.f0) == ((rd_T36 l0 x4_1).f0.f0) && (((rd_T36 l0 x4_1).f1.f1) == ((rd_T36 l0 x4_1).f0.f1))) = false := by simpa using c4
      (try (have c4b1 : decide (((rd_T36 l0 x4_1).f1.f0) = ((rd_T36 l0 x4_1).f0.f0) && (((rd_T36 l0 x4_1).f1.f1) == ((rd_T36 l0 x4_1).f0.f1))) = false := by simpa using c4))
      (try (have c4b2 : (((rd_T36 l0 x4_1).f1.f0) == ((rd_T36 l0 x4_1).f0.f0) && (((rd_T36 l0 x4_1).f1.f1) == ((rd_T36 l0 x4_1).f0.f1))) = false := by simpa using c4))
      (try (have c4b3 : ¬ (((rd_T36 l0 x4_1).f1.f0) = ((rd_T36 l0 x4_1).f0.f0) && (((rd_T36 l0 x4_1).f1.f1) == ((rd_T36 l0 x4_1).f0.f1))) := by simpa using c4))
      clear c4
      have H' := Aside0.mk H
      clear H
      have p324 : 0 ≤ (x4_1 : Int) := of_decide_eq_true (by first | (with_reducible assumption) | assumption)
      have q324 : x4_1 < (l0.length : Int) := of_decide_eq_true (by first | (with_reducible assumption) | assumption)
      obtain ⟨ad324, e324, hx324_0, hx324_1, hx324_2, hx324_3⟩ := at_T36 HR0.out x4_1 p324 q324
      cases e324
      replace p324 := eq_true p324
      replace q324 := eq_true q324
      have p325 : 0 ≤ (x4_1 : Int) := of_decide_eq_true (by first | (with_reducible assumption) | assumption)
      have q325 : x4_1 < (l0.length : Int) := of_decide_eq_true (by first | (with_reducible assumption) | assumption)
      obtain ⟨ad325, e325, hx325_0, hx325_1, hx325_2, hx325_3⟩ := at_T36 HR0.out x4_1 p325 q325
      obtain rfl : ad324 = ad325 := (by injection e325)
      replace p325 := eq_true p325
      replace q325 := eq_true q325
      go_wp2
      repeat (go_quiet (fail); try go_wp2)
      go_loopg [3, 5, 6, 7] k1 (fun kq v3 v5 v6 v7 w' => ∃ (x3_2 : Int) (x5_2 : Int) (x6_2 : Bool) (x7_2 : Int), v3 = .int .i64 x3_2 ∧ v5 = .int .i64 x5_2 ∧ v6 = .bool x6_2 ∧ v7 = .int .i64 x7_2 ∧ Aside0 (quernlaw13_circles.l1 kq l0 x3_2 x4_1 x5_2 x6_2 x7_2 = some r) ∧ Aside0 (kq ≤ k1) ∧ Drawn0 w w')
      case atStart => exact ⟨(x3_1), (x4_1), (true), (0), (by first | rfl | (simp; done) | (simp [*]; done)), (by first | rfl | (simp; done) | (simp [*]; done)), (by first | rfl | (simp; done) | (simp [*]; done)), (by first | rfl | (simp; done) | (simp [*]; done)), H', ⟨Nat.le_refl _⟩, by repeat (first | exact Drawn0.refl _ | apply Drawn0.step)⟩
      case round =>
       clear H'
       try clear c1
       try clear c2
       try clear c2b0
       try clear p2
       try clear c3
       try clear c3b0
       try clear p3
       try clear q3
       try clear hx3
       try clear c4
       try clear c4b0
       try clear c4b1
       try clear c4b2
       try clear hx324_0
       try clear hx324_1
       try clear hx324_2
       try clear hx324_3
       try clear hx325_0
       try clear hx325_1
       try clear hx325_2
       try clear hx325_3
       try clear p324
       try clear p325
       try clear q324
       try clear q325
       obtain ⟨x3_2, x5_2, x6_2, x7_2, rfl, rfl, rfl, rfl, HA, HK2, ⟨m2, rfl⟩⟩ := hrel
       cases gk with
       | zero => exact absurd HA.out (by simp [quernlaw13_circles.l1])
       | succ k2 =>
        have H := HA.out
        clear HA
        simp only [quernlaw13_circles.l1] at H
        by_cases c5 : x7_2 ≤ (l0.length : Int)
        ·rw [if_pos c5] at H
         have c5b0 : decide (x7_2 ≤ (l0.length : Int)) = true := decide_eq_true c5
         clear c5
         have H' := Aside0.mk H
         clear H
         go_wp2
         repeat (go_quiet (fail); try go_wp2)
         go_loopg [8, 9] k2 (fun kq v8 v9 w' => ∃ (x8_3 : Int) (x9_3 : Int), v8 = .int .i64 x8_3 ∧ v9 = .int .i64 x9_3 ∧ Aside0 (quernlaw13_circles.l2 kq l0 x3_2 x4_1 x5_2 x6_2 x7_2 x8_3 x9_3 = some r) ∧ Aside0 (kq ≤ k2) ∧ Drawn0 w w')
         case atStart => exact ⟨((-1)), (0), (by first | rfl | (simp; done) | (simp [*]; done)), (by first | rfl | (simp; done) | (simp [*]; done)), H', ⟨Nat.le_refl _⟩, by repeat (first | exact Drawn0.refl _ | apply Drawn0.step)⟩
         case round =>
          clear H'
          try clear c1
          try clear c2
          try clear c2b0
          try clear p2
          try clear c3
          try clear c3b0
          try clear p3
          try clear q3
          try clear hx3
          try clear c4
          try clear c4b0
          try clear c4b1
          try clear c4b2
          try clear c5
          try clear c5b0
          try clear hx324_0
          try clear hx324_1
          try clear hx324_2
          try clear hx324_3
          try clear hx325_0
          try clear hx325_1
          try clear hx325_2
          try clear hx325_3
          try clear p2
          try clear p3
          try clear p324
          try clear p325
          try clear q3
          try clear q324
          try clear q325
          obtain ⟨x8_3, x9_3, rfl, rfl, HA, HK3, ⟨m3, rfl⟩⟩ := hrel
          cases gk with
          | zero => exact absurd HA.out (by simp [quernlaw13_circles.l2])
          | succ k3 =>
           have H := HA.out
           clear HA
           simp only [quernlaw13_circles.l2] at H
           by_cases c6 : x9_3 < (l0.length : Int)
           ·rw [if_pos c6] at H
            have c6b0 : decide (x9_3 < (l0.length : Int)) = true := decide_eq_true c6
            clear c6
            by_cases c7 : 0 ≤ x9_3
            ·rw [if_pos c7] at H
             have c7b0 : decide (0 ≤ x9_3) = true := decide_eq_true c7
             clear c7
             by_cases c8 : 0 ≤ x5_2
             ·rw [if_pos c8] at H
              have c8b0 : decide (0 ≤ x5_2) = true := decide_eq_true c8
              clear c8
              by_cases c9 : x5_2 < (l0.length : Int)
              ·rw [if_pos c9] at H
               have c9b0 : decide (x5_2 < (l0.length : Int)) = true := decide_eq_true c9
               clear c9
               by_cases c10 : (((rd_T36 l0 x9_3).f0.f0) == ((rd_T36 l0 x5_2).f1.f0) && (((rd_T36 l0 x9_3).f0.f1) == ((rd_T36 l0 x5_2).f1.f1))) = true
               ·rw [if_pos c10] at H
                have c10b0 : (((rd_T36 l0 x9_3).f0.f0) == ((rd_T36 l0 x5_2).f1.f0) && (((rd_T36 l0 x9_3).f0.f1) == ((rd_T36 l0 x5_2).f1.f1))) = true := c10
                (try (have c10b1 : decide (((rd_T36 l0 x9_3).f0.f0) = ((rd_T36 l0 x5_2).f1.f0) && (((rd_T36 l0 x9_3).f0.f1) == ((rd_T36 l0 x5_2).f1.f1))) = true := by simpa using c10))
                (try (have c10b2 : (((rd_T36 l0 x9_3).f0.f0) == ((rd_T36 l0 x5_2).f1.f0) && (((rd_T36 l0 x9_3).f0.f1) == ((rd_T36 l0 x5_2).f1.f1))) = true := by simpa using c10))
                clear c10
                by_cases c11 : (!(((rd_T36 l0 x9_3).f1.f0) == ((rd_T36 l0 x9_3).f0.f0)) || (!(((rd_T36 l0 x9_3).f1.f1) == ((rd_T36 l0 x9_3).f0.f1)))) = true
                ·rw [if_pos c11] at H
                 have c11b0 : (!(((rd_T36 l0 x9_3).f1.f0) == ((rd_T36 l0 x9_3).f0.f0)) || (!(((rd_T36 l0 x9_3).f1.f1) == ((rd_T36 l0 x9_3).f0.f1)))) = true := c11
                 clear c11
                 have H' := Aside0.mk H
                 clear H
                 have p326 : 0 ≤ (x9_3 : Int) := of_decide_eq_true (by first | (with_reducible assumption) | assumption)
                 have q326 : x9_3 < (l0.length : Int) := of_decide_eq_true (by first | (with_reducible assumption) | assumption)
                 obtain ⟨ad326, e326, hx326_0, hx326_1, hx326_2, hx326_3⟩ := at_T36 HR0.out x9_3 p326 q326
                 obtain rfl : ad324 = ad326 := (by injection e326)
                 replace p326 := eq_true p326
                 replace q326 := eq_true q326
                 have p327 : 0 ≤ (x5_2 : Int) := of_decide_eq_true (by first | (with_reducible assumption) | assumption)
                 have q327 : x5_2 < (l0.length : Int) := of_decide_eq_true (by first | (with_reducible assumption) | assumption)
                 obtain ⟨ad327, e327, hx327_0, hx327_1, hx327_2, hx327_3⟩ := at_T36 HR0.out x5_2 p327 q327
                 obtain rfl : ad324 = ad327 := (by injection e327)
                 replace p327 := eq_true p327
                 replace q327 := eq_true q327
                 have p328 : 0 ≤ (x9_3 : Int) := of_decide_eq_true (by first | (with_reducible assumption) | assumption)
                 have q328 : x9_3 < (l0.length : Int) := of_decide_eq_true (by first | (with_reducible assumption) | assumption)
                 obtain ⟨ad328, e328, hx328_0, hx328_1, hx328_2, hx328_3⟩ := at_T36 HR0.out x9_3 p328 q328
                 obtain rfl : ad324 = ad328 := (by injection e328)
                 replace p328 := eq_true p328
                 replace q328 := eq_true q328
                 have p329 : 0 ≤ (x9_3 : Int) := of_decide_eq_true (by first | (with_reducible assumption) | assumption)
                 have q329 : x9_3 < (l0.length : Int) := of_decide_eq_true (by first | (with_reducible assumption) | assumption)
                 obtain ⟨ad329, e329, hx329_0, hx329_1, hx329_2, hx329_3⟩ := at_T36 HR0.out x9_3 p329 q329
                 obtain rfl : ad324 = ad329 := (by injection e329)
                 replace p329 := eq_true p329
                 replace q329 := eq_true q329
                 go_wp2
                 repeat (go_quiet (fail); try go_wp2)
                 go_roundg k3
                 case measure => have := HK1.out; have := HK2.out; have := HK3.out; omega
                 case rel => exact ⟨(x9_3), (wrap64 (x9_3 + 1)), (by first | rfl | (simp; done) | (simp [*]; done)), (by first | rfl | (simp; done) | (simp [*]; done)), H', ⟨by have := HK1.out; have := HK2.out; have := HK3.out; omega⟩, by repeat (first | exact Drawn0.refl _ | apply Drawn0.step)⟩
                ·rw [if_neg c11] at H
                 have c11b0 : (!(((rd_T36 l0 x9_3).f1.f0) == ((rd_T36 l0 x9_3).f0.f0)) || (!(((rd_T36 l0 x9_3).f1.f1) == ((rd_T36 l0 x9_3).f0.f1)))) = false := by simpa using c11
                 clear c11
                 have H' := Aside0.mk H
                 clear H
                 have p326 : 0 ≤ (x9_3 : Int) := of_decide_eq_true (by first | (with_reducible assumption) | assumption)
                 have q326 : x9_3 < (l0.length : Int) := of_decide_eq_true (by first | (with_reducible assumption) | assumption)
                 obtain ⟨ad326, e326, hx326_0, hx326_1, hx326_2, hx326_3⟩ := at_T36 HR0.out x9_3 p326 q326
                 obtain rfl : ad324 = ad326 := (by injection e326)
                 replace p326 := eq_true p326
                 replace q326 := eq_true q326
                 have p327 : 0 ≤ (x5_2 : Int) := of_decide_eq_true (by first | (with_reducible assumption) | assumption)
                 have q327 : x5_2 < (l0.length : Int) := of_decide_eq_true (by first | (with_reducible assumption) | assumption)
                 obtain ⟨ad327, e327, hx327_0, hx327_1, hx327_2, hx327_3⟩ := at_T36 HR0.out x5_2 p327 q327
                 obtain rfl : ad324 = ad327 := (by injection e327)
                 replace p327 := eq_true p327
                 replace q327 := eq_true q327
                 have p328 : 0 ≤ (x9_3 : Int) := of_decide_eq_true (by first | (with_reducible assumption) | assumption)
                 have q328 : x9_3 < (l0.length : Int) := of_decide_eq_true (by first | (with_reducible assumption) | assumption)
                 obtain ⟨ad328, e328, hx328_0, hx328_1, hx328_2, hx328_3⟩ := at_T36 HR0.out x9_3 p328 q328
                 obtain rfl : ad324 = ad328 := (by injection e328)
                 replace p328 := eq_true p328
                 replace q328 := eq_true q328
                 have p329 : 0 ≤ (x9_3 : Int) := of_decide_eq_true (by first | (with_reducible assumption) | assumption)
                 have q329 : x9_3 < (l0.length : Int) := of_decide_eq_true (by first | (with_reducible assumption) | assumption)
                 obtain ⟨ad329, e329, hx329_0, hx329_1, hx329_2, hx329_3⟩ := at_T36 HR0.out x9_3 p329 q329
                 obtain rfl : ad324 = ad329 := (by injection e329)
                 replace p329 := eq_true p329
                 replace q329 := eq_true q329
                 go_wp2
                 repeat (go_quiet (fail); try go_wp2)
                 go_roundg k3
                 case measure => have := HK1.out; have := HK2.out; have := HK3.out; omega
                 case rel => exact ⟨(x8_3), (wrap64 (x9_3 + 1)), (by first | rfl | (simp; done) | (simp [*]; done)), (by first | rfl | (simp; done) | (simp [*]; done)), H', ⟨by have := HK1.out; have := HK2.out; have := HK3.out; omega⟩, by repeat (first | exact Drawn0.refl _ | apply Drawn0.step)⟩
               ·rw [if_neg c10] at H
                have c10b0 : (((rd_T36 l0 x9_3).f0.f0) == ((rd_T36 l0 x5_2).f1.f0) && (((rd_T36 l0 x9_3).f0.f1) == ((rd_T36 l0 x5_2).f1.f1))) = false := by simpa using c10
                (try (have c10b1 : decide (((rd_T36 l0 x9_3).f0.f0) = ((rd_T36 l0 x5_2).f1.f0) && (((rd_T36 l0 x9_3).f0.f1) == ((rd_T36 l0 x5_2).f1.f1))) = false := by simpa using c10))
                (try (have c10b2 : (((rd_T36 l0 x9_3).f0.f0) == ((rd_T36 l0 x5_2).f1.f0) && (((rd_T36 l0 x9_3).f0.f1) == ((rd_T36 l0 x5_2).f1.f1))) = false := by simpa using c10))
                (try (have c10b3 : ¬ (((rd_T36 l0 x9_3).f0.f0) = ((rd_T36 l0 x5_2).f1.f0) && (((rd_T36 l0 x9_3).f0.f1) == ((rd_T36 l0 x5_2).f1.f1))) := by simpa using c10))
                clear c10
                have H' := Aside0.mk H
                clear H
                have p326 : 0 ≤ (x9_3 : Int) := of_decide_eq_true (by first | (with_reducible assumption) | assumption)
                have q326 : x9_3 < (l0.length : Int) := of_decide_eq_true (by first | (with_reducible assumption) | assumption)
                obtain ⟨ad326, e326, hx326_0, hx326_1, hx326_2, hx326_3⟩ := at_T36 HR0.out x9_3 p326 q326
                obtain rfl : ad324 = ad326 := (by injection e326)
                replace p326 := eq_true p326
                replace q326 := eq_true q326
                have p327 : 0 ≤ (x5_2 : Int) := of_decide_eq_true (by first | (with_reducible assumption) | assumption)
                have q327 : x5_2 < (l0.length : Int) := of_decide_eq_true (by first | (with_reducible assumption) | assumption)
                obtain ⟨ad327, e327, hx327_0, hx327_1, hx327_2, hx327_3⟩ := at_T36 HR0.out x5_2 p327 q327
                obtain rfl : ad324 = ad327 := (by injection e327)
                replace p327 := eq_true p327
                replace q327 := eq_true q327
                go_wp2
                repeat (go_quiet (fail); try go_wp2)
                go_roundg k3
                case measure => have := HK1.out; have := HK2.out; have := HK3.out; omega
                case rel => exact ⟨(x8_3), (wrap64 (x9_3 + 1)), (by first | rfl | (simp; done) | (simp [*]; done)), (by first | rfl | (simp; done) | (simp [*]; done)), H', ⟨by have := HK1.out; have := HK2.out; have := HK3.out; omega⟩, by repeat (first | exact Drawn0.refl _ | apply Drawn0.step)⟩
              ·rw [if_neg c9] at H
               exact absurd H (by simp)
             ·rw [if_neg c8] at H
              exact absurd H (by simp)
            ·rw [if_neg c7] at H
             exact absurd H (by simp)
           ·rw [if_neg c6] at H
            have c6b0 : decide (x9_3 < (l0.length : Int)) = false := decide_eq_false c6
            clear c6
            by_cases c12 : x8_3 < 0
            ·rw [if_pos c12] at H
             have c12b0 : decide (x8_3 < 0) = true := decide_eq_true c12
             clear c12
             have H' := Aside0.mk H
             clear H
             go_wp2
             repeat (go_quiet (fail); try go_wp2)
             go_roundg k3
             case measure => have := HK1.out; have := HK2.out; have := HK3.out; omega
             case rel => exact ⟨(x3_2), (wrap64 (x4_1 + 1)), (by first | rfl | (simp; done) | (simp [*]; done)), (by first | rfl | (simp; done) | (simp [*]; done)), H', ⟨by have := HK1.out; have := HK2.out; have := HK3.out; omega⟩, by repeat (first | exact Drawn0.refl _ | apply Drawn0.step)⟩
            ·rw [if_neg c12] at H
             have c12b0 : decide (x8_3 < 0) = false := decide_eq_false c12
             clear c12
             have HC13 := Aside0.mk H
             clear H
             go_upto_region 18 with (fail)
             repeat (go_quiet (fail); go_upto_region 18 with (fail))
             go_cut [6] (fun v6 wc => ∃ (kq : Nat) (x6_12 : Bool), v6 = .bool x6_12 ∧ Aside0 (quernlaw13_circles.j3 kq l0 x3_2 x4_1 x6_12 x7_2 x8_3 = some r) ∧ Aside0 (kq ≤ k3) ∧ Drawn0 w wc)
             case first =>
              have H := HC13.out
              clear HC13
              by_cases c14 : x6_2 = true
              ·subst c14
               have H1 : (quernlaw13_circles.j3 k3 l0 x3_2 x4_1 (decide (x8_3 ≥ x4_1)) x7_2 x8_3) = some r := by rw [if_pos rfl] at H; exact H
               clear H
               have H := H1
               clear H1
               have H' := Aside0.mk H
               clear H
               go_wp2
               repeat (go_quiet (fail); try go_wp2)
               go_meet
               case rel => exact ⟨_, (decide (x8_3 ≥ x4_1)), (by first | rfl | (simp; done) | (simp [*]; done)), H', ⟨by have := HK1.out; have := HK2.out; have := HK3.out; first | omega | exact Nat.le_refl _⟩, by repeat (first | exact Drawn0.refl _ | apply Drawn0.step)⟩
              ·replace c14 := Bool.eq_false_iff.mpr c14
               subst c14
               have H1 : (quernlaw13_circles.j3 k3 l0 x3_2 x4_1 false x7_2 x8_3) = some r := by rw [if_neg (show ¬ (false = true) by decide)] at H; exact H
               clear H
               have H := H1
               clear H1
               have H' := Aside0.mk H
               clear H
               go_wp2
               repeat (go_quiet (fail); try go_wp2)
               go_meet
               case rel => exact ⟨_, (false), (by first | rfl | (simp; done) | (simp [*]; done)), H', ⟨by have := HK1.out; have := HK2.out; have := HK3.out; first | omega | exact Nat.le_refl _⟩, by repeat (first | exact Drawn0.refl _ | apply Drawn0.step)⟩
             case rest =>
              clear HC13
              try clear c1
              try clear c2
              try clear c2b0
              try clear p2
              try clear c3
              try clear c3b0
              try clear p3
              try clear q3
              try clear hx3
              try clear c4
              try clear c4b0
              try clear c4b1
              try clear c4b2
              try clear c5
              try clear c5b0
              try clear c6
              try clear c6b0
              try clear p6
              try clear c7
              try clear c7b0
              try clear c8
              try clear c8b0
              try clear c9
              try clear c9b0
              try clear c10
              try clear c10b0
              try clear c10b1
              try clear c10b2
              try clear c11
              try clear c11b0
              try clear c12
              try clear c12b0
              try clear c14
              try clear hx324_0
              try clear hx324_1
              try clear hx324_2
              try clear hx324_3
              try clear hx325_0
              try clear hx325_1
              try clear hx325_2
              try clear hx325_3
              try clear hx326_0
              try clear hx326_1
              try clear hx326_2
              try clear hx326_3
              try clear hx327_0
              try clear hx327_1
              try clear hx327_2
              try clear hx327_3
              try clear hx328_0
              try clear hx328_1
              try clear hx328_2
              try clear hx328_3
              try clear hx329_0
              try clear hx329_1
              try clear hx329_2
              try clear hx329_3
              try clear p2
              try clear p3
              try clear p324
              try clear p325
              try clear p326
              try clear p327
              try clear p328
              try clear p329
              try clear q3
              try clear q324
              try clear q325
              try clear q326
              try clear q327
              try clear q328
              try clear q329
              obtain ⟨kq, x6_12, rfl, HA, HJ12, ⟨mc12, rfl⟩⟩ := hcut
              cases kq with
              | zero => exact absurd HA.out (by simp [quernlaw13_circles.j3])
              | succ kj12 =>
               have H := HA.out
               clear HA
               simp only [quernlaw13_circles.j3] at H
               by_cases c15 : x8_3 = x4_1
               ·rw [if_pos c15] at H
                have c15b0 : (x8_3 == x4_1) = true := beq_iff_eq.mpr c15
                have c15b1 : (x8_3 != x4_1) = false := bne_eq_false_iff_eq.mpr c15
                clear c15
                by_cases c16 : x6_12 = true
                ·subst c16
                 have H1 : (quernlaw13_circles.l0 kj12 l0 (wrap64 (x3_2 + 1)) (wrap64 (x4_1 + 1))) = some r := by rw [if_pos rfl] at H; exact H
                 clear H
                 have H := H1
                 clear H1
                 have H' := Aside0.mk H
                 clear H
                 go_wp2
                 repeat (go_quiet (fail); try go_wp2)
                 go_roundg kj12
                 case measure => have := HK1.out; have := HK2.out; have := HK3.out; have := HJ12.out; omega
                 case rel => exact ⟨(wrap64 (x3_2 + 1)), (wrap64 (x4_1 + 1)), (by first | rfl | (simp; done) | (simp [*]; done)), (by first | rfl | (simp; done) | (simp [*]; done)), H', ⟨by have := HK1.out; have := HK2.out; have := HK3.out; have := HJ12.out; omega⟩, by repeat (first | exact Drawn0.refl _ | apply Drawn0.step)⟩
                ·replace c16 := Bool.eq_false_iff.mpr c16
                 subst c16
                 have H1 : (quernlaw13_circles.l0 kj12 l0 x3_2 (wrap64 (x4_1 + 1))) = some r := by rw [if_neg (show ¬ (false = true) by decide)] at H; exact H
                 clear H
                 have H := H1
                 clear H1
                 have H' := Aside0.mk H
                 clear H
                 go_wp2
                 repeat (go_quiet (fail); try go_wp2)
                 go_roundg kj12
                 case measure => have := HK1.out; have := HK2.out; have := HK3.out; have := HJ12.out; omega
                 case rel => exact ⟨(x3_2), (wrap64 (x4_1 + 1)), (by first | rfl | (simp; done) | (simp [*]; done)), (by first | rfl | (simp; done) | (simp [*]; done)), H', ⟨by have := HK1.out; have := HK2.out; have := HK3.out; have := HJ12.out; omega⟩, by repeat (first | exact Drawn0.refl _ | apply Drawn0.step)⟩
               ·rw [if_neg c15] at H
                have c15b0 : (x8_3 == x4_1) = false := beq_eq_false_iff_ne.mpr c15
                have c15b1 : (x8_3 != x4_1) = true := bne_iff_ne.mpr c15
                have H' := Aside0.mk H
                clear H
                go_wp2
                repeat (go_quiet (fail); try go_wp2)
                go_roundg kj12
                case measure => have := HK1.out; have := HK2.out; have := HK3.out; have := HJ12.out; omega
                case rel => exact ⟨(x3_2), (x8_3), (x6_12), (wrap64 (x7_2 + 1)), (by first | rfl | (simp; done) | (simp [*]; done)), (by first | rfl | (simp; done) | (simp [*]; done)), (by first | rfl | (simp; done) | (simp [*]; done)), (by first | rfl | (simp; done) | (simp [*]; done)), H', ⟨by have := HK1.out; have := HK2.out; have := HK3.out; have := HJ12.out; omega⟩, by repeat (first | exact Drawn0.refl _ | apply Drawn0.step)⟩
        ·rw [if_neg c5] at H
         have c5b0 : decide (x7_2 ≤ (l0.length : Int)) = false := decide_eq_false c5
         clear c5
         have H' := Aside0.mk H
         clear H
         go_wp2
         repeat (go_quiet (fail); try go_wp2)
         go_roundg k2
         case measure => have := HK1.out; have := HK2.out; omega
         case rel => exact ⟨(x3_2), (wrap64 (x4_1 + 1)), (by first | rfl | (simp; done) | (simp [*]; done)), (by first | rfl | (simp; done) | (simp [*]; done)), H', ⟨by have := HK1.out; have := HK2.out; omega⟩, by repeat (first | exact Drawn0.refl _ | apply Drawn0.step)⟩
    ·rw [if_neg c3] at H
     exact absurd H (by simp)
   ·rw [if_neg c2] at H
    have c2b0 : decide (x4_1 < (l0.length : Int)) = false := decide_eq_false c2
    clear c2
    obtain rfl := Option.some.inj H
    go_wp2
    repeat (go_quiet (fail); try go_wp2)
    go_ret
    exact ⟨by first | rfl | (simp; done) | (simp [*]; done), by repeat (first | exact Drawn0.refl _ | apply Drawn0.step)⟩

end Go.Proofs.Ytameoapnhmoleaa.PP
