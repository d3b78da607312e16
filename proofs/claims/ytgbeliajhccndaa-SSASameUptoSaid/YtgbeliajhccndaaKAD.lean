/- Lemmas of this claim (PP6). -/
import Derived.Test.YtgbeliajhccndaaKF
namespace Go.Proofs.Ytgbeliajhccndaa.PP
open Go.RowKit Go.Proofs.YtgbeliajhccndaaW.PrintWords Go.Proofs.YtgbeliajhccndaaW.PrintLast Go.Proofs.YtgbeliajhccndaaW.PrintMore
attribute [local go_sem] max2_int min2_int max_two min_two max_three min_three max_four min_four   
set_option linter.unusedVariables false
set_option linter.unusedSimpArgs false
def quernref9_within.l0:Nat → List Int → Int → Int → Option (Bool)
 | 0,_,_,_=>none
 | k + 1,x0,x1,x5=>if x5 < (x0.length:Int) then (if 0 ≤ x5 then (if (rd x0 x5) < 0 then (some false) else (if (rd x0 x5) ≥ x1 then (some false) else (quernref9_within.l0 k x0 x1 (wrap64 (x5 + 1))))) else (none)) else (some true)
def quernref9_within.f (k:Nat) (l0:List Int) (a1:Int):Option (Bool):=quernref9_within.l0 k l0 a1 0
theorem quernref9_within.mono_l:∀ k,(∀ y0 y1 y2,LeO (quernref9_within.l0 k y0 y1 y2) (quernref9_within.l0 (k + 1) y0 y1 y2))
 | 0=>fun _ _ _ r h=>by simp [quernref9_within.l0] at h
 | k + 1=>by
  have ih0:=quernref9_within.mono_l k
  ·intro y0 y1 y2
   unfold quernref9_within.l0
   repeat' first
   | (with_reducible exact ih0 _ _ _)
   | (with_reducible exact LeO.refl _)
   | (with_reducible exact LeO.none _)
   | (with_reducible refine LeO.ite ?_ ?_)
   | (with_reducible refine LeO.bind ?_ (fun _=>?_))
   | exact ih0 _ _ _
   | exact LeO.none _
   | refine LeO.ite ?_ ?_
   | refine LeO.bind ?_ (fun _=>?_)
theorem quernref9_within.mono:∀ a0 a1 k,LeO (quernref9_within.f k a0 a1) (quernref9_within.f (k + 1) a0 a1):=by
 intro a0 a1 k
 have ih0:=quernref9_within.mono_l k
 unfold quernref9_within.f
 repeat' first
  | (with_reducible exact ih0 _ _ _)
  | (with_reducible exact LeO.refl _)
  | (with_reducible exact LeO.none _)
  | (with_reducible refine LeO.ite ?_ ?_)
  | (with_reducible refine LeO.bind ?_ (fun _=>?_))
  | exact ih0 _ _ _
  | exact LeO.none _
  | refine LeO.ite ?_ ?_
  | refine LeO.bind ?_ (fun _=>?_)
set_option maxHeartbeats 8000000 in
set_option maxRecDepth 100000 in
theorem quernref9_within.calls (k:Nat) (A0:Option Addr) (c0:Nat) (l0:List Int) (a1:Int) (r:Bool) (w:World) (hr0:Kd.C (Kd.int .i64) w A0 l0.length l0) (hc0:l0.length ≤ c0) (h:quernref9_within.f k l0 a1 = some r) :
 Calls Try.prog 72 #[.slice A0 l0.length c0,.int .i64 a1] w fun e w'=>e = .returned (.bool r) ∧ Drawn0 w w':=by
 have HR0:=Aside0.mk hr0
 have HC0:=Aside0.mk hc0
 clear hr0 hc0
 have H:(quernref9_within.l0 k l0 a1 0) = some r:=h
 clear h
 have H':=Aside0.mk H
 clear H
 go_enter Try.func72,Try.ntmps72
 go_wp2
 go_loopg [5] k (fun kq v5 w'=>∃ (x5_1:Int),v5 = .int .i64 x5_1 ∧ Aside0 (quernref9_within.l0 kq l0 a1 x5_1 = some r) ∧ Aside0 (kq ≤ k) ∧ Drawn0 w w')
 case atStart=>exact ⟨(0),(by first | rfl | (simp;done) | (simp [*];done)),H',⟨Nat.le_refl _⟩,by repeat (first | exact Drawn0.refl _ | apply Drawn0.step)⟩
 case round=>
  clear H'
  try clear p2
  obtain ⟨x5_1,rfl,HA,HK1,⟨m1,rfl⟩⟩:=hrel
  cases gk with
  | zero=>exact absurd HA.out (by simp [quernref9_within.l0])
  | succ k1=>
   have H:=HA.out
   clear HA
   simp only [quernref9_within.l0] at H
   by_cases c3:x5_1 < (l0.length:Int)
   ·rw [if_pos c3] at H
    have c3b0:decide (x5_1 < (l0.length:Int)) = true:=decide_eq_true c3
    clear c3
    by_cases c4:0 ≤ x5_1
    ·rw [if_pos c4] at H
     have c4b0:decide (0 ≤ x5_1) = true:=decide_eq_true c4
     clear c4
     by_cases c5:(rd l0 x5_1) < 0
     ·rw [if_pos c5] at H
      have c5b0:decide ((rd l0 x5_1) < 0) = true:=decide_eq_true c5
      clear c5
      obtain rfl:=Option.some.inj H
      have p259:0 ≤ (x5_1:Int):=of_decide_eq_true (by first | (with_reducible assumption) | assumption)
      have q259:x5_1 < (l0.length:Int):=of_decide_eq_true (by first | (with_reducible assumption) | assumption)
      obtain ⟨ad259,e259,hx259_0⟩:=Kd.at_int HR0.out x5_1 p259 q259
      cases e259
      replace p259:=eq_true p259
      replace q259:=eq_true q259
      go_wp2
      go_ret
      exact ⟨by first | rfl | (simp;done) | (simp [*];done),by repeat (first | exact Drawn0.refl _ | apply Drawn0.step)⟩
     ·rw [if_neg c5] at H
      have c5b0:decide ((rd l0 x5_1) < 0) = false:=decide_eq_false c5
      clear c5
      by_cases c6:(rd l0 x5_1) ≥ a1
      ·rw [if_pos c6] at H
       have c6b0:decide (a1 ≤ (rd l0 x5_1)) = true:=decide_eq_true c6
       clear c6
       obtain rfl:=Option.some.inj H
       have p259:0 ≤ (x5_1:Int):=of_decide_eq_true (by first | (with_reducible assumption) | assumption)
       have q259:x5_1 < (l0.length:Int):=of_decide_eq_true (by first | (with_reducible assumption) | assumption)
       obtain ⟨ad259,e259,hx259_0⟩:=Kd.at_int HR0.out x5_1 p259 q259
       cases e259
       replace p259:=eq_true p259
       replace q259:=eq_true q259
       have p260:0 ≤ (x5_1:Int):=of_decide_eq_true (by first | (with_reducible assumption) | assumption)
       have q260:x5_1 < (l0.length:Int):=of_decide_eq_true (by first | (with_reducible assumption) | assumption)
       obtain ⟨ad260,e260,hx260_0⟩:=Kd.at_int HR0.out x5_1 p260 q260
       obtain rfl:ad259 = ad260:=(by injection e260)
       replace p260:=eq_true p260
       replace q260:=eq_true q260
       go_wp2
       go_ret
       exact ⟨by first | rfl | (simp;done) | (simp [*];done),by repeat (first | exact Drawn0.refl _ | apply Drawn0.step)⟩
      ·rw [if_neg c6] at H
       have c6b0:decide (a1 ≤ (rd l0 x5_1)) = false:=decide_eq_false c6
       clear c6
       have H':=Aside0.mk H
       clear H
       have p259:0 ≤ (x5_1:Int):=of_decide_eq_true (by first | (with_reducible assumption) | assumption)
       have q259:x5_1 < (l0.length:Int):=of_decide_eq_true (by first | (with_reducible assumption) | assumption)
       obtain ⟨ad259,e259,hx259_0⟩:=Kd.at_int HR0.out x5_1 p259 q259
       cases e259
       replace p259:=eq_true p259
       replace q259:=eq_true q259
       have p260:0 ≤ (x5_1:Int):=of_decide_eq_true (by first | (with_reducible assumption) | assumption)
       have q260:x5_1 < (l0.length:Int):=of_decide_eq_true (by first | (with_reducible assumption) | assumption)
       obtain ⟨ad260,e260,hx260_0⟩:=Kd.at_int HR0.out x5_1 p260 q260
       obtain rfl:ad259 = ad260:=(by injection e260)
       replace p260:=eq_true p260
       replace q260:=eq_true q260
       go_wp2
       go_roundg k1
       case measure=>have:=HK1.out;omega
       case rel=>exact ⟨(wrap64 (x5_1 + 1)),(by first | rfl | (simp;done) | (simp [*];done)),H',⟨by have:=HK1.out;omega⟩,by repeat (first | exact Drawn0.refl _ | apply Drawn0.step)⟩
    ·rw [if_neg c4] at H
     exact absurd H (by simp)
   ·rw [if_neg c3] at H
    have c3b0:decide (x5_1 < (l0.length:Int)) = false:=decide_eq_false c3
    clear c3
    obtain rfl:=Option.some.inj H
    go_wp2
    go_ret
    exact ⟨by first | rfl | (simp;done) | (simp [*];done),by repeat (first | exact Drawn0.refl _ | apply Drawn0.step)⟩
def quernref9_same.l0:Nat → List Int → List Int → Int → Option (Bool)
 | 0,_,_,_=>none
 | k + 1,x0,x1,x5=>if x5 < (x0.length:Int) then (if 0 ≤ x5 then (if x5 < (x1.length:Int) then (if (rd x0 x5) = (rd x1 x5) then (quernref9_same.l0 k x0 x1 (wrap64 (x5 + 1))) else (some false)) else (none)) else (none)) else (some true)
def quernref9_same.f (k:Nat) (l0:List Int) (l1:List Int):Option (Bool):=if (l0.length:Int) = (l1.length:Int) then (quernref9_same.l0 k l0 l1 0) else (some false)
theorem quernref9_same.mono_l:∀ k,(∀ y0 y1 y2,LeO (quernref9_same.l0 k y0 y1 y2) (quernref9_same.l0 (k + 1) y0 y1 y2))
 | 0=>fun _ _ _ r h=>by simp [quernref9_same.l0] at h
 | k + 1=>by
  have ih0:=quernref9_same.mono_l k
  ·intro y0 y1 y2
   unfold quernref9_same.l0
   repeat' first
   | (with_reducible exact ih0 _ _ _)
   | (with_reducible exact LeO.refl _)
   | (with_reducible exact LeO.none _)
   | (with_reducible refine LeO.ite ?_ ?_)
   | (with_reducible refine LeO.bind ?_ (fun _=>?_))
   | exact ih0 _ _ _
   | exact LeO.none _
   | refine LeO.ite ?_ ?_
   | refine LeO.bind ?_ (fun _=>?_)
theorem quernref9_same.mono:∀ a0 a1 k,LeO (quernref9_same.f k a0 a1) (quernref9_same.f (k + 1) a0 a1):=by
 intro a0 a1 k
 have ih0:=quernref9_same.mono_l k
 unfold quernref9_same.f
 repeat' first
  | (with_reducible exact ih0 _ _ _)
  | (with_reducible exact LeO.refl _)
  | (with_reducible exact LeO.none _)
  | (with_reducible refine LeO.ite ?_ ?_)
  | (with_reducible refine LeO.bind ?_ (fun _=>?_))
  | exact ih0 _ _ _
  | exact LeO.none _
  | refine LeO.ite ?_ ?_
  | refine LeO.bind ?_ (fun _=>?_)
set_option maxHeartbeats 8000000 in
set_option maxRecDepth 100000 in
theorem quernref9_same.calls (k:Nat) (A0:Option Addr) (c0:Nat) (l0:List Int) (A1:Option Addr) (c1:Nat) (l1:List Int) (r:Bool) (w:World) (hr0:Kd.C (Kd.int .i64) w A0 l0.length l0) (hc0:l0.length ≤ c0) (hr1:Kd.C (Kd.int .i64) w A1 l1.length l1) (hc1:l1.length ≤ c1) (h:quernref9_same.f k l0 l1 = some r) :
 Calls Try.prog 75 #[.slice A0 l0.length c0,.slice A1 l1.length c1] w fun e w'=>e = .returned (.bool r) ∧ Drawn0 w w':=by
 have HR0:=Aside0.mk hr0
 have HC0:=Aside0.mk hc0
 clear hr0 hc0
 have HR1:=Aside0.mk hr1
 have HC1:=Aside0.mk hc1
 clear hr1 hc1
 have H:(if (l0.length:Int) = (l1.length:Int) then (quernref9_same.l0 k l0 l1 0) else (some false)) = some r:=h
 clear h
 by_cases c3:(l0.length:Int) = (l1.length:Int)
 ·rw [if_pos c3] at H
  have c3b0:((l0.length:Int) == (l1.length:Int)) = true:=beq_iff_eq.mpr c3
  have c3b1:((l0.length:Int) != (l1.length:Int)) = false:=bne_eq_false_iff_eq.mpr c3
  have c3b2:(l0.length == l1.length) = true:=by first | simpa using c3 | (simp at c3 ⊢;omega)
  clear c3
  have H':=Aside0.mk H
  clear H
  go_enter Try.func75,Try.ntmps75
  go_wp2
  repeat (go_quiet (fail);try go_wp2)
  go_loopg [5] k (fun kq v5 w'=>∃ (x5_1:Int),v5 = .int .i64 x5_1 ∧ Aside0 (quernref9_same.l0 kq l0 l1 x5_1 = some r) ∧ Aside0 (kq ≤ k) ∧ Drawn0 w w')
  case atStart=>exact ⟨(0),(by first | rfl | (simp;done) | (simp [*];done)),H',⟨Nat.le_refl _⟩,by repeat (first | exact Drawn0.refl _ | apply Drawn0.step)⟩
  case round=>
   clear H'
   try clear c1
   try clear p2
   try clear c3
   try clear c3b0
   try clear c3b1
   try clear c3b2
   obtain ⟨x5_1,rfl,HA,HK1,⟨m1,rfl⟩⟩:=hrel
   cases gk with
   | zero=>exact absurd HA.out (by simp [quernref9_same.l0])
   | succ k1=>
    have H:=HA.out
    clear HA
    simp only [quernref9_same.l0] at H
    by_cases c4:x5_1 < (l0.length:Int)
    ·rw [if_pos c4] at H
     have c4b0:decide (x5_1 < (l0.length:Int)) = true:=decide_eq_true c4
     clear c4
     by_cases c5:0 ≤ x5_1
     ·rw [if_pos c5] at H
      have c5b0:decide (0 ≤ x5_1) = true:=decide_eq_true c5
      clear c5
      by_cases c6:x5_1 < (l1.length:Int)
      ·rw [if_pos c6] at H
       have c6b0:decide (x5_1 < (l1.length:Int)) = true:=decide_eq_true c6
       clear c6
       by_cases c7:(rd l0 x5_1) = (rd l1 x5_1)
       ·rw [if_pos c7] at H
        have c7b0:((rd l0 x5_1) == (rd l1 x5_1)) = true:=beq_iff_eq.mpr c7
        have c7b1:((rd l0 x5_1) != (rd l1 x5_1)) = false:=bne_eq_false_iff_eq.mpr c7
        clear c7
        have H':=Aside0.mk H
        clear H
        have p298:0 ≤ (x5_1:Int):=of_decide_eq_true (by first | (with_reducible assumption) | assumption)
        have q298:x5_1 < (l0.length:Int):=of_decide_eq_true (by first | (with_reducible assumption) | assumption)
        obtain ⟨ad298,e298,hx298_0⟩:=Kd.at_int HR0.out x5_1 p298 q298
        cases e298
        replace p298:=eq_true p298
        replace q298:=eq_true q298
        have p299:0 ≤ (x5_1:Int):=of_decide_eq_true (by first | (with_reducible assumption) | assumption)
        have q299:x5_1 < (l1.length:Int):=of_decide_eq_true (by first | (with_reducible assumption) | assumption)
        obtain ⟨ad299,e299,hx299_0⟩:=Kd.at_int HR1.out x5_1 p299 q299
        cases e299
        replace p299:=eq_true p299
        replace q299:=eq_true q299
        go_wp2
        repeat (go_quiet (fail);try go_wp2)
        go_roundg k1
        case measure=>have:=HK1.out;omega
        case rel=>exact ⟨(wrap64 (x5_1 + 1)),(by first | rfl | (simp;done) | (simp [*];done)),H',⟨by have:=HK1.out;omega⟩,by repeat (first | exact Drawn0.refl _ | apply Drawn0.step)⟩
       ·rw [if_neg c7] at H
        have c7b0:((rd l0 x5_1) == (rd l1 x5_1)) = false:=beq_eq_false_iff_ne.mpr c7
        have c7b1:((rd l0 x5_1) != (rd l1 x5_1)) = true:=bne_iff_ne.mpr c7
        obtain rfl:=Option.some.inj H
        have p298:0 ≤ (x5_1:Int):=of_decide_eq_true (by first | (with_reducible assumption) | assumption)
        have q298:x5_1 < (l0.length:Int):=of_decide_eq_true (by first | (with_reducible assumption) | assumption)
        obtain ⟨ad298,e298,hx298_0⟩:=Kd.at_int HR0.out x5_1 p298 q298
        cases e298
        replace p298:=eq_true p298
        replace q298:=eq_true q298
        have p299:0 ≤ (x5_1:Int):=of_decide_eq_true (by first | (with_reducible assumption) | assumption)
        have q299:x5_1 < (l1.length:Int):=of_decide_eq_true (by first | (with_reducible assumption) | assumption)
        obtain ⟨ad299,e299,hx299_0⟩:=Kd.at_int HR1.out x5_1 p299 q299
        cases e299
        replace p299:=eq_true p299
        replace q299:=eq_true q299
        go_wp2
        repeat (go_quiet (fail);try go_wp2)
        go_ret
        exact ⟨by first | rfl | (simp;done) | (simp [*];done),by repeat (first | exact Drawn0.refl _ | apply Drawn0.step)⟩
      ·rw [if_neg c6] at H
       exact absurd H (by simp)
     ·rw [if_neg c5] at H
      exact absurd H (by simp)
    ·rw [if_neg c4] at H
     have c4b0:decide (x5_1 < (l0.length:Int)) = false:=decide_eq_false c4
     clear c4
     obtain rfl:=Option.some.inj H
     go_wp2
     repeat (go_quiet (fail);try go_wp2)
     go_ret
     exact ⟨by first | rfl | (simp;done) | (simp [*];done),by repeat (first | exact Drawn0.refl _ | apply Drawn0.step)⟩
 ·rw [if_neg c3] at H
  have c3b0:((l0.length:Int) == (l1.length:Int)) = false:=beq_eq_false_iff_ne.mpr c3
  have c3b1:((l0.length:Int) != (l1.length:Int)) = true:=bne_iff_ne.mpr c3
  have c3b2:(l0.length == l1.length) = false:=by first | simpa using c3 | (simp at c3 ⊢;omega)
  obtain rfl:=Option.some.inj H
  go_enter Try.func75,Try.ntmps75
  go_wp2
  repeat (go_quiet (fail);try go_wp2)
  go_ret
  exact ⟨by first | rfl | (simp;done) | (simp [*];done),by repeat (first | exact Drawn0.refl _ | apply Drawn0.step)⟩
mutual
def quernref8_Good.l0:Nat → List (List Int) → Int → Option (Bool)
 | 0,_,_=>none
 | k + 1,x0,x3=>if x3 < (x0.length:Int) then (quernref8_Good.l1 k x0 x3 0) else (some (decide ((x0.length:Int) > 0)))
def quernref8_Good.l1:Nat → List (List Int) → Int → Int → Option (Bool)
 | 0,_,_,_=>none
 | k + 1,x0,x3,x4=>if 0 ≤ x3 then (if x3 < (x0.length:Int) then (if x4 < ((rd_L2 x0 x3).length:Int) then (if 0 ≤ x4 then (if (rd (rd_L2 x0 x3) x4) < 0 then (some false) else (if (rd (rd_L2 x0 x3) x4) ≥ (x0.length:Int) then (some false) else (quernref8_Good.l1 k x0 x3 (wrap64 (x4 + 1))))) else (none)) else (quernref8_Good.l0 k x0 (wrap64 (x3 + 1)))) else (none)) else (none)
end
def quernref8_Good.f (k:Nat) (l0:List (List Int)):Option (Bool):=quernref8_Good.l0 k l0 0
theorem quernref8_Good.mono_l:∀ k,(∀ y0 y1,LeO (quernref8_Good.l0 k y0 y1) (quernref8_Good.l0 (k + 1) y0 y1)) ∧ (∀ y0 y1 y2,LeO (quernref8_Good.l1 k y0 y1 y2) (quernref8_Good.l1 (k + 1) y0 y1 y2))
 | 0=>⟨fun _ _ r h=>by simp [quernref8_Good.l0] at h,fun _ _ _ r h=>by simp [quernref8_Good.l1] at h⟩
 | k + 1=>by
  obtain ⟨ih0,ih1⟩:=quernref8_Good.mono_l k
  refine ⟨?_,?_⟩
  ·intro y0 y1
   unfold quernref8_Good.l0
   repeat' first
   | (with_reducible exact ih0 _ _)
   | (with_reducible exact ih1 _ _ _)
   | (with_reducible exact LeO.refl _)
   | (with_reducible exact LeO.none _)
   | (with_reducible refine LeO.ite ?_ ?_)
   | (with_reducible refine LeO.bind ?_ (fun _=>?_))
   | exact ih0 _ _
   | exact ih1 _ _ _
   | exact LeO.none _
   | refine LeO.ite ?_ ?_
   | refine LeO.bind ?_ (fun _=>?_)
  ·intro y0 y1 y2
   unfold quernref8_Good.l1
   repeat' first
   | (with_reducible exact ih0 _ _)
   | (with_reducible exact ih1 _ _ _)
   | (with_reducible exact LeO.refl _)
   | (with_reducible exact LeO.none _)
   | (with_reducible refine LeO.ite ?_ ?_)
   | (with_reducible refine LeO.bind ?_ (fun _=>?_))
   | exact ih0 _ _
   | exact ih1 _ _ _
   | exact LeO.none _
   | refine LeO.ite ?_ ?_
   | refine LeO.bind ?_ (fun _=>?_)
theorem quernref8_Good.mono:∀ a0 k,LeO (quernref8_Good.f k a0) (quernref8_Good.f (k + 1) a0):=by
 intro a0 k
 obtain ⟨ih0,ih1⟩:=quernref8_Good.mono_l k
 unfold quernref8_Good.f
 repeat' first
  | (with_reducible exact ih0 _ _)
  | (with_reducible exact ih1 _ _ _)
  | (with_reducible exact LeO.refl _)
  | (with_reducible exact LeO.none _)
  | (with_reducible refine LeO.ite ?_ ?_)
  | (with_reducible refine LeO.bind ?_ (fun _=>?_))
  | exact ih0 _ _
  | exact ih1 _ _ _
  | exact LeO.none _
  | refine LeO.ite ?_ ?_
  | refine LeO.bind ?_ (fun _=>?_)
set_option maxHeartbeats 8000000 in
set_option maxRecDepth 100000 in
theorem quernref8_Good.calls (k:Nat) (A0:Option Addr) (c0:Nat) (l0:List (List Int)) (r:Bool) (w:World) (hr0:Kd.C (Kd.slice 3 (Kd.int .i64)) w A0 l0.length l0) (hc0:l0.length ≤ c0) (h:quernref8_Good.f k l0 = some r) :
 Calls Try.prog 77 #[.slice A0 l0.length c0] w fun e w'=>e = .returned (.bool r) ∧ Drawn0 w w':=by
 have HR0:=Aside0.mk hr0
 have HC0:=Aside0.mk hc0
 clear hr0 hc0
 have H:(quernref8_Good.l0 k l0 0) = some r:=h
 clear h
 have H':=Aside0.mk H
 clear H
 go_enter Try.func77,Try.ntmps77
 go_wp2
 go_loopg [3] k (fun kq v3 w'=>∃ (x3_1:Int),v3 = .int .i64 x3_1 ∧ Aside0 (quernref8_Good.l0 kq l0 x3_1 = some r) ∧ Aside0 (kq ≤ k) ∧ Drawn0 w w')
 case atStart=>exact ⟨(0),(by first | rfl | (simp;done) | (simp [*];done)),H',⟨Nat.le_refl _⟩,by repeat (first | exact Drawn0.refl _ | apply Drawn0.step)⟩
 case round=>
  clear H'
  obtain ⟨x3_1,rfl,HA,HK1,⟨m1,rfl⟩⟩:=hrel
  cases gk with
  | zero=>exact absurd HA.out (by simp [quernref8_Good.l0])
  | succ k1=>
   have H:=HA.out
   clear HA
   simp only [quernref8_Good.l0] at H
   by_cases c2:x3_1 < (l0.length:Int)
   ·rw [if_pos c2] at H
    have c2b0:decide (x3_1 < (l0.length:Int)) = true:=decide_eq_true c2
    clear c2
    have H':=Aside0.mk H
    clear H
    go_wp2
    go_loopg [4] k1 (fun kq v4 w'=>∃ (x4_2:Int),v4 = .int .i64 x4_2 ∧ Aside0 (quernref8_Good.l1 kq l0 x3_1 x4_2 = some r) ∧ Aside0 (kq ≤ k1) ∧ Drawn0 w w')
    case atStart=>exact ⟨(0),(by first | rfl | (simp;done) | (simp [*];done)),H',⟨Nat.le_refl _⟩,by repeat (first | exact Drawn0.refl _ | apply Drawn0.step)⟩
    case round=>
     clear H'
     try clear c2
     try clear c2b0
     try clear p2
     obtain ⟨x4_2,rfl,HA,HK2,⟨m2,rfl⟩⟩:=hrel
     cases gk with
     | zero=>exact absurd HA.out (by simp [quernref8_Good.l1])
     | succ k2=>
      have H:=HA.out
      clear HA
      simp only [quernref8_Good.l1] at H
      by_cases c3:0 ≤ x3_1
      ·rw [if_pos c3] at H
       have c3b0:decide (0 ≤ x3_1) = true:=decide_eq_true c3
       clear c3
       by_cases c4:x3_1 < (l0.length:Int)
       ·rw [if_pos c4] at H
        have c4b0:decide (x3_1 < (l0.length:Int)) = true:=decide_eq_true c4
        clear c4
        by_cases c5:x4_2 < ((rd_L2 l0 x3_1).length:Int)
        ·rw [if_pos c5] at H
         have c5b0:decide (x4_2 < ((rd_L2 l0 x3_1).length:Int)) = true:=decide_eq_true c5
         clear c5
         by_cases c6:0 ≤ x4_2
         ·rw [if_pos c6] at H
          have c6b0:decide (0 ≤ x4_2) = true:=decide_eq_true c6
          clear c6
          by_cases c7:(rd (rd_L2 l0 x3_1) x4_2) < 0
          ·rw [if_pos c7] at H
           have c7b0:decide ((rd (rd_L2 l0 x3_1) x4_2) < 0) = true:=decide_eq_true c7
           clear c7
           obtain rfl:=Option.some.inj H
           have p314:0 ≤ (x3_1:Int):=of_decide_eq_true (by first | (with_reducible assumption) | assumption)
           have q314:x3_1 < (l0.length:Int):=of_decide_eq_true (by first | (with_reducible assumption) | assumption)
           obtain ⟨ad314,A314_0,c314_0,e314,hx314_0,hl314_0,hi314_0⟩:=at_L2 HR0.out x3_1 p314 q314
           cases e314
           have HR314_0:=Aside0.mk hi314_0
           have HC314_0:=Aside0.mk hl314_0
           clear hi314_0 hl314_0
           replace p314:=eq_true p314
           replace q314:=eq_true q314
           have p315:0 ≤ (x3_1:Int):=of_decide_eq_true (by first | (with_reducible assumption) | assumption)
           have q315:x3_1 < (l0.length:Int):=of_decide_eq_true (by first | (with_reducible assumption) | assumption)
           obtain ⟨ad315,A315_0,c315_0,e315,hx315_0,hl315_0,hi315_0⟩:=at_L2 HR0.out x3_1 p315 q315
           obtain rfl:ad314 = ad315:=(by injection e315)
           have HR315_0:=Aside0.mk hi315_0
           have HC315_0:=Aside0.mk hl315_0
           clear hi315_0 hl315_0
           replace p315:=eq_true p315
           replace q315:=eq_true q315
           have ea_:=Option.some.inj (hx314_0.symm.trans hx315_0)
           injection ea_ with ea_ en_ ec_
           subst ea_
           subst ec_
           clear en_
           have p316:0 ≤ (x4_2:Int):=of_decide_eq_true (by first | (with_reducible assumption) | assumption)
           have q316:x4_2 < ((rd_L2 l0 x3_1).length:Int):=of_decide_eq_true (by first | (with_reducible assumption) | assumption)
           obtain ⟨ad316,e316,hx316_0⟩:=Kd.at_int HR315_0.out x4_2 p316 q316
           cases e316
           replace p316:=eq_true p316
           replace q316:=eq_true q316
           go_wp2
           go_ret
           exact ⟨by first | rfl | (simp;done) | (simp [*];done),by repeat (first | exact Drawn0.refl _ | apply Drawn0.step)⟩
          ·rw [if_neg c7] at H
           have c7b0:decide ((rd (rd_L2 l0 x3_1) x4_2) < 0) = false:=decide_eq_false c7
           clear c7
           by_cases c8:(rd (rd_L2 l0 x3_1) x4_2) ≥ (l0.length:Int)
           ·rw [if_pos c8] at H
            have c8b0:decide ((l0.length:Int) ≤ (rd (rd_L2 l0 x3_1) x4_2)) = true:=decide_eq_true c8
            clear c8
            obtain rfl:=Option.some.inj H
            have p314:0 ≤ (x3_1:Int):=of_decide_eq_true (by first | (with_reducible assumption) | assumption)
            have q314:x3_1 < (l0.length:Int):=of_decide_eq_true (by first | (with_reducible assumption) | assumption)
            obtain ⟨ad314,A314_0,c314_0,e314,hx314_0,hl314_0,hi314_0⟩:=at_L2 HR0.out x3_1 p314 q314
            cases e314
            have HR314_0:=Aside0.mk hi314_0
            have HC314_0:=Aside0.mk hl314_0
            clear hi314_0 hl314_0
            replace p314:=eq_true p314
            replace q314:=eq_true q314
            have p315:0 ≤ (x3_1:Int):=of_decide_eq_true (by first | (with_reducible assumption) | assumption)
            have q315:x3_1 < (l0.length:Int):=of_decide_eq_true (by first | (with_reducible assumption) | assumption)
            obtain ⟨ad315,A315_0,c315_0,e315,hx315_0,hl315_0,hi315_0⟩:=at_L2 HR0.out x3_1 p315 q315
            obtain rfl:ad314 = ad315:=(by injection e315)
            have HR315_0:=Aside0.mk hi315_0
            have HC315_0:=Aside0.mk hl315_0
            clear hi315_0 hl315_0
            replace p315:=eq_true p315
            replace q315:=eq_true q315
            have ea_:=Option.some.inj (hx314_0.symm.trans hx315_0)
            injection ea_ with ea_ en_ ec_
            subst ea_
            subst ec_
            clear en_
            have p316:0 ≤ (x4_2:Int):=of_decide_eq_true (by first | (with_reducible assumption) | assumption)
            have q316:x4_2 < ((rd_L2 l0 x3_1).length:Int):=of_decide_eq_true (by first | (with_reducible assumption) | assumption)
            obtain ⟨ad316,e316,hx316_0⟩:=Kd.at_int HR315_0.out x4_2 p316 q316
            cases e316
            replace p316:=eq_true p316
            replace q316:=eq_true q316
            have p317:0 ≤ (x3_1:Int):=of_decide_eq_true (by first | (with_reducible assumption) | assumption)
            have q317:x3_1 < (l0.length:Int):=of_decide_eq_true (by first | (with_reducible assumption) | assumption)
            obtain ⟨ad317,A317_0,c317_0,e317,hx317_0,hl317_0,hi317_0⟩:=at_L2 HR0.out x3_1 p317 q317
            obtain rfl:ad314 = ad317:=(by injection e317)
            have HR317_0:=Aside0.mk hi317_0
            have HC317_0:=Aside0.mk hl317_0
            clear hi317_0 hl317_0
            replace p317:=eq_true p317
            replace q317:=eq_true q317
            have ea_:=Option.some.inj (hx314_0.symm.trans hx317_0)
            injection ea_ with ea_ en_ ec_
            subst ea_
            subst ec_
            clear en_
            have p318:0 ≤ (x4_2:Int):=of_decide_eq_true (by first | (with_reducible assumption) | assumption)
            have q318:x4_2 < ((rd_L2 l0 x3_1).length:Int):=of_decide_eq_true (by first | (with_reducible assumption) | assumption)
            obtain ⟨ad318,e318,hx318_0⟩:=Kd.at_int HR317_0.out x4_2 p318 q318
            cases e318
            replace p318:=eq_true p318
            replace q318:=eq_true q318
            go_wp2
            go_ret
            exact ⟨by first | rfl | (simp;done) | (simp [*];done),by repeat (first | exact Drawn0.refl _ | apply Drawn0.step)⟩
           ·rw [if_neg c8] at H
            have c8b0:decide ((l0.length:Int) ≤ (rd (rd_L2 l0 x3_1) x4_2)) = false:=decide_eq_false c8
            clear c8
            have H':=Aside0.mk H
            clear H
            have p314:0 ≤ (x3_1:Int):=of_decide_eq_true (by first | (with_reducible assumption) | assumption)
            have q314:x3_1 < (l0.length:Int):=of_decide_eq_true (by first | (with_reducible assumption) | assumption)
            obtain ⟨ad314,A314_0,c314_0,e314,hx314_0,hl314_0,hi314_0⟩:=at_L2 HR0.out x3_1 p314 q314
            cases e314
            have HR314_0:=Aside0.mk hi314_0
            have HC314_0:=Aside0.mk hl314_0
            clear hi314_0 hl314_0
            replace p314:=eq_true p314
            replace q314:=eq_true q314
            have p315:0 ≤ (x3_1:Int):=of_decide_eq_true (by first | (with_reducible assumption) | assumption)
            have q315:x3_1 < (l0.length:Int):=of_decide_eq_true (by first | (with_reducible assumption) | assumption)
            obtain ⟨ad315,A315_0,c315_0,e315,hx315_0,hl315_0,hi315_0⟩:=at_L2 HR0.out x3_1 p315 q315
            obtain rfl:ad314 = ad315:=(by injection e315)
            have HR315_0:=Aside0.mk hi315_0
            have HC315_0:=Aside0.mk hl315_0
            clear hi315_0 hl315_0
            replace p315:=eq_true p315
            replace q315:=eq_true q315
            have ea_:=Option.some.inj (hx314_0.symm.trans hx315_0)
            injection ea_ with ea_ en_ ec_
            subst ea_
            subst ec_
            clear en_
            have p316:0 ≤ (x4_2:Int):=of_decide_eq_true (by first | (with_reducible assumption) | assumption)
            have q316:x4_2 < ((rd_L2 l0 x3_1).length:Int):=of_decide_eq_true (by first | (with_reducible assumption) | assumption)
            obtain ⟨ad316,e316,hx316_0⟩:=Kd.at_int HR315_0.out x4_2 p316 q316
            cases e316
            replace p316:=eq_true p316
            replace q316:=eq_true q316
            have p317:0 ≤ (x3_1:Int):=of_decide_eq_true (by first | (with_reducible assumption) | assumption)
            have q317:x3_1 < (l0.length:Int):=of_decide_eq_true (by first | (with_reducible assumption) | assumption)
            obtain ⟨ad317,A317_0,c317_0,e317,hx317_0,hl317_0,hi317_0⟩:=at_L2 HR0.out x3_1 p317 q317
            obtain rfl:ad314 = ad317:=(by injection e317)
            have HR317_0:=Aside0.mk hi317_0
            have HC317_0:=Aside0.mk hl317_0
            clear hi317_0 hl317_0
            replace p317:=eq_true p317
            replace q317:=eq_true q317
            have ea_:=Option.some.inj (hx314_0.symm.trans hx317_0)
            injection ea_ with ea_ en_ ec_
            subst ea_
            subst ec_
            clear en_
            have p318:0 ≤ (x4_2:Int):=of_decide_eq_true (by first | (with_reducible assumption) | assumption)
            have q318:x4_2 < ((rd_L2 l0 x3_1).length:Int):=of_decide_eq_true (by first | (with_reducible assumption) | assumption)
            obtain ⟨ad318,e318,hx318_0⟩:=Kd.at_int HR317_0.out x4_2 p318 q318
            cases e318
            replace p318:=eq_true p318
            replace q318:=eq_true q318
            go_wp2
            go_roundg k2
            case measure=>have:=HK1.out;have:=HK2.out;omega
            case rel=>exact ⟨(wrap64 (x4_2 + 1)),(by first | rfl | (simp;done) | (simp [*];done)),H',⟨by have:=HK1.out;have:=HK2.out;omega⟩,by repeat (first | exact Drawn0.refl _ | apply Drawn0.step)⟩
         ·rw [if_neg c6] at H
          exact absurd H (by simp)
        ·rw [if_neg c5] at H
         have c5b0:decide (x4_2 < ((rd_L2 l0 x3_1).length:Int)) = false:=decide_eq_false c5
         clear c5
         have H':=Aside0.mk H
         clear H
         have p314:0 ≤ (x3_1:Int):=of_decide_eq_true (by first | (with_reducible assumption) | assumption)
         have q314:x3_1 < (l0.length:Int):=of_decide_eq_true (by first | (with_reducible assumption) | assumption)
         obtain ⟨ad314,A314_0,c314_0,e314,hx314_0,hl314_0,hi314_0⟩:=at_L2 HR0.out x3_1 p314 q314
         cases e314
         have HR314_0:=Aside0.mk hi314_0
         have HC314_0:=Aside0.mk hl314_0
         clear hi314_0 hl314_0
         replace p314:=eq_true p314
         replace q314:=eq_true q314
         go_wp2
         go_roundg k2
         case measure=>have:=HK1.out;have:=HK2.out;omega
         case rel=>exact ⟨(wrap64 (x3_1 + 1)),(by first | rfl | (simp;done) | (simp [*];done)),H',⟨by have:=HK1.out;have:=HK2.out;omega⟩,by repeat (first | exact Drawn0.refl _ | apply Drawn0.step)⟩
       ·rw [if_neg c4] at H
        exact absurd H (by simp)
      ·rw [if_neg c3] at H
       exact absurd H (by simp)
   ·rw [if_neg c2] at H
    have c2b0:decide (x3_1 < (l0.length:Int)) = false:=decide_eq_false c2
    clear c2
    obtain rfl:=Option.some.inj H
    go_wp2
    go_ret
    exact ⟨by first | rfl | (simp;done) | (simp [*];done),by repeat (first | exact Drawn0.refl _ | apply Drawn0.step)⟩
mutual
def quernref8_Without.l0:Nat → List (List Int) → Int → List Bool → List Int → Option (List Bool)
 | 0,_,_,_,_=>none
 | k + 1,x0,x1,x5,x6=>if (x6.length:Int) > 0 then (if 0 < (x6.length:Int) then (if 1 ≤ (x6.length:Int) then (quernref8_Without.l1 k x0 x1 x5 (x6.drop (1:Int).toNat) (rd x6 0) 0) else (none)) else (none)) else (some x5)
def quernref8_Without.l1:Nat → List (List Int) → Int → List Bool → List Int → Int → Int → Option (List Bool)
 | 0,_,_,_,_,_,_=>none
 | k + 1,x0,x1,x5,x6,x7,x8=>if 0 ≤ x7 then (if x7 < (x0.length:Int) then (if x8 < ((rd_L2 x0 x7).length:Int) then (if 0 ≤ x8 then (if (rd (rd_L2 x0 x7) x8) = x1 then (quernref8_Without.l1 k x0 x1 x5 x6 x7 (wrap64 (x8 + 1))) else (if 0 ≤ (rd (rd_L2 x0 x7) x8) then (if (rd (rd_L2 x0 x7) x8) < (x5.length:Int) then (if (rdOf false x5 (rd (rd_L2 x0 x7) x8) = true) then (quernref8_Without.l1 k x0 x1 x5 x6 x7 (wrap64 (x8 + 1))) else (if x6.length < 17592186044416 then (quernref8_Without.l1 k x0 x1 (x5.set ((rd (rd_L2 x0 x7) x8):Int).toNat true) (x6 ++ [rd (rd_L2 x0 x7) x8]) x7 (wrap64 (x8 + 1))) else (none))) else (none)) else (none))) else (none)) else (quernref8_Without.l0 k x0 x1 x5 x6)) else (none)) else (none)
end
def quernref8_Without.f (k:Nat) (l0:List (List Int)) (a1:Int):Option (List Bool):=if 0 ≤ (l0.length:Int) then (if ((l0.length:Int):Int).toNat ≤ 281474976710656 then ((some (List.replicate ((l0.length:Int):Int).toNat false:List Bool)).bind fun y319=>(if a1 = 0 then (some y319) else (if 0 < (y319.length:Int) then (quernref8_Without.l0 k l0 a1 (y319.set (0:Int).toNat true) (([0]:List Int))) else (none)))) else (none)) else (none)
theorem quernref8_Without.mono_l:∀ k,(∀ y0 y1 y2 y3,LeO (quernref8_Without.l0 k y0 y1 y2 y3) (quernref8_Without.l0 (k + 1) y0 y1 y2 y3)) ∧ (∀ y0 y1 y2 y3 y4 y5,LeO (quernref8_Without.l1 k y0 y1 y2 y3 y4 y5) (quernref8_Without.l1 (k + 1) y0 y1 y2 y3 y4 y5))
 | 0=>⟨fun _ _ _ _ r h=>by simp [quernref8_Without.l0] at h,fun _ _ _ _ _ _ r h=>by simp [quernref8_Without.l1] at h⟩
 | k + 1=>by
  obtain ⟨ih0,ih1⟩:=quernref8_Without.mono_l k
  refine ⟨?_,?_⟩
  ·intro y0 y1 y2 y3
   unfold quernref8_Without.l0
   repeat' first
   | (with_reducible exact ih0 _ _ _ _)
   | (with_reducible exact ih1 _ _ _ _ _ _)
   | (with_reducible exact LeO.refl _)
   | (with_reducible exact LeO.none _)
   | (with_reducible refine LeO.ite ?_ ?_)
   | (with_reducible refine LeO.bind ?_ (fun _=>?_))
   | exact ih0 _ _ _ _
   | exact ih1 _ _ _ _ _ _
   | exact LeO.none _
   | refine LeO.ite ?_ ?_
   | refine LeO.bind ?_ (fun _=>?_)
  ·intro y0 y1 y2 y3 y4 y5
   unfold quernref8_Without.l1
   repeat' first
   | (with_reducible exact ih0 _ _ _ _)
   | (with_reducible exact ih1 _ _ _ _ _ _)
   | (with_reducible exact LeO.refl _)
   | (with_reducible exact LeO.none _)
   | (with_reducible refine LeO.ite ?_ ?_)
   | (with_reducible refine LeO.bind ?_ (fun _=>?_))
   | exact ih0 _ _ _ _
   | exact ih1 _ _ _ _ _ _
   | exact LeO.none _
   | refine LeO.ite ?_ ?_
   | refine LeO.bind ?_ (fun _=>?_)
theorem quernref8_Without.mono:∀ a0 a1 k,LeO (quernref8_Without.f k a0 a1) (quernref8_Without.f (k + 1) a0 a1):=by
 intro a0 a1 k
 obtain ⟨ih0,ih1⟩:=quernref8_Without.mono_l k
 unfold quernref8_Without.f
 repeat' first
  | (with_reducible exact ih0 _ _ _ _)
  | (with_reducible exact ih1 _ _ _ _ _ _)
  | (with_reducible exact LeO.refl _)
  | (with_reducible exact LeO.none _)
  | (with_reducible refine LeO.ite ?_ ?_)
  | (with_reducible refine LeO.bind ?_ (fun _=>?_))
  | exact ih0 _ _ _ _
  | exact ih1 _ _ _ _ _ _
  | exact LeO.none _
  | refine LeO.ite ?_ ?_
  | refine LeO.bind ?_ (fun _=>?_)
set_option maxHeartbeats 8000000 in
set_option maxRecDepth 100000 in
theorem quernref8_Without.calls (k:Nat) (A0:Option Addr) (c0:Nat) (l0:List (List Int)) (a1:Int) (r:List Bool) (w:World) (hr0:Kd.C (Kd.slice 3 (Kd.int .i64)) w A0 l0.length l0) (hc0:l0.length ≤ c0) (h:quernref8_Without.f k l0 a1 = some r) :
 Calls Try.prog 78 #[.slice A0 l0.length c0,.int .i64 a1] w fun e w'=>∃ v0_:Value,e = .returned (v0_) ∧ Kd.R Kd.bool 4 w' w.heap.size (fun _=>True) v0_ r ∧ Below w.heap.size w w':=by
 have HR0:=Aside0.mk hr0
 have HC0:=Aside0.mk hc0
 clear hr0 hc0
 have HB:=Aside0.mk (Below.refl w.heap.size w)
 have H:(if 0 ≤ (l0.length:Int) then (if ((l0.length:Int):Int).toNat ≤ 281474976710656 then ((some (List.replicate ((l0.length:Int):Int).toNat false:List Bool)).bind fun y319=>(if a1 = 0 then (some y319) else (if 0 < (y319.length:Int) then (quernref8_Without.l0 k l0 a1 (y319.set (0:Int).toNat true) (([0]:List Int))) else (none)))) else (none)) else (none)) = some r:=h
 clear h
 by_cases c3:0 ≤ (l0.length:Int)
 ·rw [if_pos c3] at H
  have c3b0:=eq_true c3
  have c3b1:decide (0 ≤ (l0.length:Int)) = true:=decide_eq_true c3
  clear c3
  by_cases c4:((l0.length:Int):Int).toNat ≤ 281474976710656
  ·rw [if_pos c4] at H
   have c4b0:=eq_true c4
   have c4b1:decide (((l0.length:Int):Int).toNat ≤ 281474976710656) = true:=decide_eq_true c4
   clear c4
   obtain ⟨y319,hy319⟩:∃ y_:List Bool,y_ = (List.replicate ((l0.length:Int):Int).toNat false):=⟨_,rfl⟩
   replace H:(if a1 = 0 then (some y319) else (if 0 < (y319.length:Int) then (quernref8_Without.l0 k l0 a1 (y319.set (0:Int).toNat true) (([0]:List Int))) else (none))) = some r:=by first | (rw [hy319];with_reducible exact H) | (have H2_:=(Option.bind_some _ _).symm.trans H;rw [hy319];with_reducible exact H2_) | (have H2_:=(Option.bind_some _ _).symm.trans H;with_reducible exact H2_) | with_reducible exact H | (rw [hy319];exact H) | exact H
   have Ny319:=Aside0.mk hy319
   clear hy319
   by_cases c5:a1 = 0
   ·rw [if_pos c5] at H
    have c5b0:(a1 == 0) = true:=beq_iff_eq.mpr c5
    have c5b1:(a1 != 0) = false:=bne_eq_false_iff_eq.mpr c5
    clear c5
    obtain rfl:=Option.some.inj H
    go_enter Try.func78,Try.ntmps78
    go_wp2_with (first | ((with_reducible refine gate_dst (N:=12) rfl ?_);refine Kd.R_make Kd.bool _ 4 rfl (N:=12) rfl 76 _ _ rfl (l0.length:Int) rfl rfl Try.underlying76 (.bool false) 1 info4 rfl (by decide) (by omega) false (ok:=fun _=>True) (okp:=fun _=>True) rfl (fun _ hk=>hk) trivial (of_decide_eq_true (by first | (with_reducible assumption) | assumption)) (Nat.le_trans (Nat.mul_le_mul_right _ (of_decide_eq_true (by first | (with_reducible assumption) | assumption):(l0.length:Int).toNat ≤ 281474976710656)) (by omega)) (Below.refl _ _) (Nat.le_refl _) ?_;intro v320 w6 ho7 hb hg_ hnew_;clear hg_ hnew_;(first | rw [← Ny319.out] at ho7 | (simp only [Int.reduceToNat] at ho7;rw [← Ny319.out] at ho7));have n0_:=Aside0.mk (Kd.R_lower ho7 (below_size (by repeat (first | (with_reducible first | exact HB.out | apply below_alloc | apply pw_below_drewN | apply below_drew1) | exact HB.out))));have n1_:=Aside0.mk (below_step (by repeat (first | (with_reducible first | exact HB.out | apply below_alloc | apply pw_below_drewN | apply below_drew1) | exact HB.out)) hb);clear HB;have HO321:=n0_;have HB:=n1_;clear n0_ n1_;clear hb ho7))
    go_ret
    exact ⟨_,by first | rfl | (simp [errW_none,errW_some] <;> rfl) | (simp [*,errW_none,errW_some] <;> rfl),by (with_reducible repeat (first | apply Kd.R_alloc | apply Kd.R_drewN | apply Kd.R_drew));exact HO321.out,by repeat (first | (with_reducible first | exact HB.out | apply below_alloc | apply pw_below_drewN | apply below_drew1) | exact HB.out)⟩
   ·rw [if_neg c5] at H
    have c5b0:(a1 == 0) = false:=beq_eq_false_iff_ne.mpr c5
    have c5b1:(a1 != 0) = true:=bne_iff_ne.mpr c5
    by_cases c8:0 < (y319.length:Int)
    ·rw [if_pos c8] at H
     have c8b0:decide (0 < (y319.length:Int)) = true:=decide_eq_true c8
     have c8b1:decide (0 < y319.length) = true:=decide_eq_true (by omega)
     clear c8
     obtain ⟨y322,hy322⟩:∃ y_:List Bool,y_ = (y319.set (0:Int).toNat true):=⟨_,rfl⟩
     replace H:(quernref8_Without.l0 k l0 a1 y322 (([0]:List Int))) = some r:=by first | (rw [hy322];with_reducible exact H) | (have H2_:=(Option.bind_some _ _).symm.trans H;rw [hy322];with_reducible exact H2_) | (have H2_:=(Option.bind_some _ _).symm.trans H;with_reducible exact H2_) | with_reducible exact H | (rw [hy322];exact H) | exact H
     have Ny322:=Aside0.mk hy322
     clear hy322
     obtain ⟨y323,hy323⟩:∃ y_:List Int,y_ = (([0]:List Int)):=⟨_,rfl⟩
     replace H:(quernref8_Without.l0 k l0 a1 y322 y323) = some r:=by first | (rw [hy323];with_reducible exact H) | (have H2_:=(Option.bind_some _ _).symm.trans H;rw [hy323];with_reducible exact H2_) | (have H2_:=(Option.bind_some _ _).symm.trans H;with_reducible exact H2_) | with_reducible exact H | (rw [hy323];exact H) | exact H
     have Ny323:=Aside0.mk hy323
     clear hy323
     have H':=Aside0.mk H
     clear H
     go_enter Try.func78,Try.ntmps78
     go_wp2_with (first | ((with_reducible refine gate_dst (N:=12) rfl ?_);refine Kd.R_make Kd.bool _ 4 rfl (N:=12) rfl 76 _ _ rfl (l0.length:Int) rfl rfl Try.underlying76 (.bool false) 1 info4 rfl (by decide) (by omega) false (ok:=fun _=>True) (okp:=fun _=>True) rfl (fun _ hk=>hk) trivial (of_decide_eq_true (by first | (with_reducible assumption) | assumption)) (Nat.le_trans (Nat.mul_le_mul_right _ (of_decide_eq_true (by first | (with_reducible assumption) | assumption):(l0.length:Int).toNat ≤ 281474976710656)) (by omega)) (Below.refl _ _) (Nat.le_refl _) ?_;intro v320 w10 ho11 hb hg_ hnew_;clear hg_ hnew_;(first | rw [← Ny319.out] at ho11 | (simp only [Int.reduceToNat] at ho11;rw [← Ny319.out] at ho11));have n0_:=Aside0.mk (Kd.R_lower ho11 (below_size (by repeat (first | (with_reducible first | exact HB.out | apply below_alloc | apply pw_below_drewN | apply below_drew1) | exact HB.out))));have n1_:=Aside0.mk (below_step (by repeat (first | (with_reducible first | exact HB.out | apply below_alloc | apply pw_below_drewN | apply below_drew1) | exact HB.out)) hb);clear HB;have HO321:=n0_;have HB:=n1_;clear n0_ n1_;clear hb ho11;have p9:0 ≤ (0:Int):=(by omega);have q9:(0:Int) < ((y319.length:Int):Int):=of_decide_eq_true (by first | (with_reducible assumption) | assumption);have qi9:(0 < y319.length) = True:=eq_true (by omega);obtain ⟨go9,co9,eo9,gb9,gl9,cl9,HG9⟩:=Kd.R_form HO321.out (by omega);(first | cases eo9 | (injection eo9 with ea_ en_ ec_;(first | subst ea_ | (injection ea_ with ea_;subst ea_));subst ec_;clear en_));have GB9:=Aside0.mk gb9;have GG9:=Aside0.mk HG9;clear gb9 gl9 HG9;obtain ⟨hx9_0,hf9_0⟩:=Kd.R_celln false HO321.out (0:Int) p9 q9;(try rw [show ((0:Int)).toNat = 0 from rfl] at hx9_0);(try simp only [Nat.reduceMul,Nat.zero_mul,Nat.zero_add,Nat.reduceAdd] at hx9_0);(try rw [show ((0:Int)).toNat = 0 from rfl] at hf9_0);(try simp only [Nat.reduceMul,Nat.zero_mul,Nat.zero_add,Nat.reduceAdd] at hf9_0);replace p9:=eq_true p9;replace q9:=eq_true q9;obtain ⟨hy12_,hz12_⟩:=Kd.R_celln false HO321.out (0:Int) (by omega) (of_decide_eq_true (by first | (with_reducible assumption) | assumption));(try simp only [Int.reduceToNat,Int.toNat_zero,Int.toNat_ofNat,Nat.reduceMul,Nat.zero_mul,Nat.zero_add] at hy12_ hz12_);(try rw [show ((0:Int)).toNat = 0 from rfl] at hy12_);(try rw [show ((0:Int)).toNat = 0 from rfl] at hz12_);have HP12:=Kd.R_putg HO321.out (0:Int) true) | ((with_reducible refine gate_store (t:=4) (p:=17) rfl ?_);refine store_event (t:=4) (p:=17) (v:=?vo_w13) (w1:=(w10.setCell ⟨go9,(0:Int).toNat,none⟩ (.bool true))) ?hg ?ho ?hn ?hr ?_;(case ho=>rfl);(case hg=>rfl);(case hn=>rfl);(case hr=>first | (go_simp;done) | (go_simp;rfl));intro w13 hw;have hg:w10.grownBy w13 (some go9):=(by rw [hw];exact HP12.2);have hp_:Kd.R Kd.bool 4 w13 w.heap.size (fun _=>True) (.slice (some ⟨go9,0,none⟩) y319.length co9) y322:=(by rw [hw,Ny322.out];exact HP12.1);clear HP12;have n0_:=Aside0.mk (hp_);have n1_:=Aside0.mk ((by rw [hw];exact below_set (HB.out) GB9.out:Below w.heap.size w w13));clear HO321;clear HB;have HO321:=n0_;have HB:=n1_;clear n0_ n1_;clear hg hw hp_) | ((with_reducible refine gate_dst (N:=18) rfl ?_);refine Kd.R_lit (Kd.int .i64) _ 3 ?hg (N:=18) ?hd (xs:=([0]:List Int)) (inner:=[.int .i64 0]) (ok:=fun _=>True) (okp:=fun _=>True) ?hr ?hp (fun _ hk=>hk) trivial (Below.refl _ _) (Nat.le_refl _) (by simp) ?_;(case hd=>rfl);(case hg=>rfl);(case hr=>first | (go_simp;done) | (go_simp;rfl));(case hp=>exact (Reps.one (show Kd.M (Kd.int .i64) _ _ _ 0 [.int .i64 0] from rfl) (Reps.none _ _)));intro v324 w14 ho15 hb hg_ hnew_;clear hg_ hnew_;(first | rw [← Ny323.out] at ho15 | (simp only [Int.reduceToNat] at ho15;rw [← Ny323.out] at ho15));have n0_:=Aside0.mk (Kd.R_below (by (with_reducible repeat (first | apply Kd.R_alloc | apply Kd.R_drewN | apply Kd.R_drew));exact HO321.out) hb);have n1_:=Aside0.mk (Kd.R_lower ho15 (below_size (by repeat (first | (with_reducible first | exact HB.out | apply below_alloc | apply pw_below_drewN | apply below_drew1) | exact HB.out))));have n2_:=Aside0.mk (below_step (by repeat (first | (with_reducible first | exact HB.out | apply below_alloc | apply pw_below_drewN | apply below_drew1) | exact HB.out)) hb);clear HO321;clear HB;have HO321:=n0_;have HO325:=n1_;have HB:=n2_;clear n0_ n1_ n2_;clear hb ho15))
     go_loopg [6] k (fun kq v6 w'=>∃ (x5_1:List Bool) (x6_1:List Int),Aside0 (quernref8_Without.l0 kq l0 a1 x5_1 x6_1 = some r) ∧ Aside0 (kq ≤ k) ∧ Aside0 (Kd.R Kd.bool 4 w' w.heap.size (fun _=>True) (.slice (some ⟨go9,0,none⟩) y319.length co9) x5_1) ∧ Aside0 (Kd.Q (Kd.int .i64) 3 w' w.heap.size (fun _=>True) v6 x6_1) ∧ Aside0 (Below w.heap.size w w'))
     case atStart=>exact ⟨(y322),(y323),H',⟨Nat.le_refl _⟩,⟨by (with_reducible repeat (first | apply Kd.R_alloc | apply Kd.R_drewN | apply Kd.R_drew));exact HO321.out⟩,⟨Kd.Q_of_R (by (with_reducible repeat (first | apply Kd.R_alloc | apply Kd.R_drewN | apply Kd.R_drew));exact HO325.out)⟩,⟨by repeat (first | (with_reducible first | exact HB.out | apply below_alloc | apply pw_below_drewN | apply below_drew1) | exact HB.out)⟩⟩
     case round=>
      clear H'
      try clear p2
      try clear c3
      try clear c3b0
      try clear c3b1
      try clear c4
      try clear c4b0
      try clear c4b1
      try clear c5
      try clear c5b0
      try clear c5b1
      try clear c7
      try clear c8
      try clear c8b0
      try clear c8b1
      try clear p9
      try clear q9
      try clear hx9
      try clear qi9
      try clear hf9
      try clear hx9_0
      try clear p9
      try clear q9
      obtain ⟨x5_1,x6_1,HA,HK1,HO_5,HO_6,HB⟩:=hrel
      have hl5_1:=(Kd.R_reads' HO_5.out).1
      rw [hl5_1] at HO_5
      (try simp only [hl5_1])
      (try simp only [hl5_1] at HO_6)
      cases gk with
      | zero=>exact absurd HA.out (by simp [quernref8_Without.l0])
      | succ k1=>
       have H:=HA.out
       clear HA
       simp only [quernref8_Without.l0] at H
       by_cases c16:(x6_1.length:Int) > 0
       ·rw [if_pos c16] at H
        have c16b0:decide (0 < (x6_1.length:Int)) = true:=decide_eq_true c16
        have c16b1:decide (0 < x6_1.length) = true:=decide_eq_true (by omega)
        clear c16
        by_cases c17:0 < (x6_1.length:Int)
        ·rw [if_pos c17] at H
         have c17b0:decide (0 < (x6_1.length:Int)) = true:=decide_eq_true c17
         have c17b1:decide (0 < x6_1.length) = true:=decide_eq_true (by omega)
         clear c17
         by_cases c18:1 ≤ (x6_1.length:Int)
         ·rw [if_pos c18] at H
          have c18b0:=eq_true c18
          have c18b1:decide (1 ≤ (x6_1.length:Int)) = true:=decide_eq_true c18
          clear c18
          obtain ⟨y327,hy327⟩:∃ y_:List Int,y_ = (x6_1.drop (1:Int).toNat):=⟨_,rfl⟩
          replace H:(quernref8_Without.l1 k1 l0 a1 x5_1 y327 (rd x6_1 0) 0) = some r:=by first | (rw [hy327];with_reducible exact H) | (have H2_:=(Option.bind_some _ _).symm.trans H;rw [hy327];with_reducible exact H2_) | (have H2_:=(Option.bind_some _ _).symm.trans H;with_reducible exact H2_) | with_reducible exact H | (rw [hy327];exact H) | exact H
          have Ny327:=Aside0.mk hy327
          clear hy327
          have H':=Aside0.mk H
          clear H
          obtain ⟨Ao19,co19,eo19,_⟩:=Kd.Q_slice HO_6.out
          subst eo19
          have p326:0 ≤ (0:Int):=(by omega)
          have q326:0 < (x6_1.length:Int):=of_decide_eq_true (by first | (with_reducible assumption) | assumption)
          obtain ⟨ad326,e326,hx326_0⟩:=Kd.at_int (Kd.Q_reads' HO_6.out).2.2 0 p326 q326
          cases e326
          have qi326:(0 < x6_1.length) = True:=eq_true (by omega)
          (try rw [show ((0:Int)).toNat = 0 from rfl] at hx326_0)
          (try rw [Addr.add_zero'] at hx326_0)
          replace p326:=eq_true p326
          replace q326:=eq_true q326
          have q20:(1:Int) ≤ ((x6_1.length:Int):Int):=of_decide_eq_true (by first | (with_reducible assumption) | assumption)
          obtain ⟨i020,hi020,_,hsz20,_⟩:=info_parts info3
          have hcut20:=cut_from (P:=Try.prog) 34 3 .i64 Try.underlying34 hi020 1 hsz20 (some ad326) x6_1.length co19 1 (by omega) q20
          have hr20:=Kd.Q_drop (k:=(1:Int).toNat) HO_6.out (by omega)
          obtain ⟨A20,hA20⟩:∃ A1,A1 = (if co19 = (1:Int).toNat then (some ad326) else ((some ad326):Option Addr).map (·.add ((1:Int).toNat * 1))):=⟨_,rfl⟩
          obtain ⟨c20,hc20⟩:∃ c1,c1 = co19 - (1:Int).toNat:=⟨_,rfl⟩
          have hy20:y327.length = x6_1.length - (1:Int).toNat:=(by rw [Ny327.out,List.length_drop])
          rw [← Ny327.out] at hr20
          rw [← hy20,← hA20,← hc20] at hcut20
          replace hr20:Kd.Q (Kd.int .i64) 3 wr w.heap.size (fun _=>True) (.slice A20 y327.length c20) y327:=(by rw [hA20,hc20,hy20];exact hr20)
          have HE20:Aside0 ((Value.slice A20 y327.length c20).ownBlock = (.slice (some ad326) x6_1.length co19:Value).ownBlock):=⟨by rw [hA20];split <;> (cases ((some ad326):Option Addr) <;> rfl)⟩
          clear hy20 hi020 hsz20 HO_6 hA20 hc20
          have HO329:=Aside0.mk hr20
          clear hr20
          replace q20:=eq_true q20
          go_wp2
          go_loopg [6,8] k1 (fun kq v6 v8 w'=>∃ (x5_2:List Bool) (x6_2:List Int) (x8_2:Int),v8 = .int .i64 x8_2 ∧ Aside0 (quernref8_Without.l1 kq l0 a1 x5_2 x6_2 (rd x6_1 0) x8_2 = some r) ∧ Aside0 (kq ≤ k1) ∧ Aside0 (Kd.R Kd.bool 4 w' w.heap.size (fun _=>True) (.slice (some ⟨go9,0,none⟩) x5_1.length co9) x5_2) ∧ Aside0 (Kd.Q (Kd.int .i64) 3 w' w.heap.size (fun _=>True) v6 x6_2) ∧ Aside0 (Below w.heap.size w w'))
          case atStart=>exact ⟨(x5_1),(y327),(0),(by first | rfl | (simp;done) | (simp [*];done)),H',⟨Nat.le_refl _⟩,⟨by (try simp only [hl5_1]);(with_reducible repeat (first | apply Kd.R_alloc | apply Kd.R_drewN | apply Kd.R_drew));exact HO_5.out⟩,⟨by (try simp only [hl5_1]);(with_reducible repeat (first | apply Kd.Q_alloc | apply Kd.Q_drewN | apply Kd.Q_drew));exact HO329.out⟩,⟨by repeat (first | (with_reducible first | exact HB.out | apply below_alloc | apply pw_below_drewN | apply below_drew1) | exact HB.out)⟩⟩
          case round=>
           clear H'
           try clear c1
           try clear c2
           try clear p2
           try clear q2
           try clear c3
           try clear c3b0
           try clear c3b1
           try clear p3
           try clear q3
           try clear hx3
           try clear qi3
           try clear c4
           try clear c4b0
           try clear c4b1
           try clear c5
           try clear c5b0
           try clear c5b1
           try clear c7
           try clear c8
           try clear c8b0
           try clear c8b1
           try clear p9
           try clear q9
           try clear hx9
           try clear qi9
           try clear hf9
           try clear c16
           try clear c16b0
           try clear c16b1
           try clear c17
           try clear c17b0
           try clear c17b1
           try clear c18
           try clear c18b0
           try clear c18b1
           try clear c20
           try clear q20
           try clear hx326_0
           try clear hx9_0
           try clear p2
           try clear p326
           try clear p9
           try clear q20
           try clear q326
           try clear q9
           obtain ⟨x5_2,x6_2,x8_2,rfl,HA,HK2,HO_5,HO_6,HB⟩:=hrel
           have hl5_2:=(Kd.R_reads' HO_5.out).1
           rw [hl5_2] at HO_5
           (try simp only [hl5_2])
           (try simp only [hl5_2] at HO_6)
           cases gk with
           | zero=>exact absurd HA.out (by simp [quernref8_Without.l1])
           | succ k2=>
            have H:=HA.out
            clear HA
            simp only [quernref8_Without.l1] at H
            by_cases c21:0 ≤ (rd x6_1 0)
            ·rw [if_pos c21] at H
             have c21b0:decide (0 ≤ (rd x6_1 0)) = true:=decide_eq_true c21
             clear c21
             by_cases c22:(rd x6_1 0) < (l0.length:Int)
             ·rw [if_pos c22] at H
              have c22b0:decide ((rd x6_1 0) < (l0.length:Int)) = true:=decide_eq_true c22
              clear c22
              by_cases c23:x8_2 < ((rd_L2 l0 (rd x6_1 0)).length:Int)
              ·rw [if_pos c23] at H
               have c23b0:decide (x8_2 < ((rd_L2 l0 (rd x6_1 0)).length:Int)) = true:=decide_eq_true c23
               clear c23
               by_cases c24:0 ≤ x8_2
               ·rw [if_pos c24] at H
                have c24b0:decide (0 ≤ x8_2) = true:=decide_eq_true c24
                clear c24
                by_cases c25:(rd (rd_L2 l0 (rd x6_1 0)) x8_2) = a1
                ·rw [if_pos c25] at H
                 have c25b0:((rd (rd_L2 l0 (rd x6_1 0)) x8_2) == a1) = true:=beq_iff_eq.mpr c25
                 have c25b1:((rd (rd_L2 l0 (rd x6_1 0)) x8_2) != a1) = false:=bne_eq_false_iff_eq.mpr c25
                 clear c25
                 have H':=Aside0.mk H
                 clear H
                 have p330:0 ≤ ((rd x6_1 0):Int):=of_decide_eq_true (by first | (with_reducible assumption) | assumption)
                 have q330:(rd x6_1 0) < (l0.length:Int):=of_decide_eq_true (by first | (with_reducible assumption) | assumption)
                 obtain ⟨ad330,A330_0,c330_0,e330,hx330_0,hl330_0,hi330_0⟩:=at_L2 HR0.out (rd x6_1 0) p330 q330
                 cases e330
                 replace hx330_0:=cellA HB hx330_0
                 have HR330_0:=Aside0.mk hi330_0
                 have HC330_0:=Aside0.mk hl330_0
                 clear hi330_0 hl330_0
                 replace p330:=eq_true p330
                 replace q330:=eq_true q330
                 have p331:0 ≤ ((rd x6_1 0):Int):=of_decide_eq_true (by first | (with_reducible assumption) | assumption)
                 have q331:(rd x6_1 0) < (l0.length:Int):=of_decide_eq_true (by first | (with_reducible assumption) | assumption)
                 obtain ⟨ad331,A331_0,c331_0,e331,hx331_0,hl331_0,hi331_0⟩:=at_L2 HR0.out (rd x6_1 0) p331 q331
                 obtain rfl:ad330 = ad331:=(by injection e331)
                 replace hx331_0:=cellA HB hx331_0
                 have HR331_0:=Aside0.mk hi331_0
                 have HC331_0:=Aside0.mk hl331_0
                 clear hi331_0 hl331_0
                 replace p331:=eq_true p331
                 replace q331:=eq_true q331
                 have ea_:=Option.some.inj (hx330_0.symm.trans hx331_0)
                 injection ea_ with ea_ en_ ec_
                 subst ea_
                 subst ec_
                 clear en_
                 have p332:0 ≤ (x8_2:Int):=of_decide_eq_true (by first | (with_reducible assumption) | assumption)
                 have q332:x8_2 < ((rd_L2 l0 (rd x6_1 0)).length:Int):=of_decide_eq_true (by first | (with_reducible assumption) | assumption)
                 obtain ⟨ad332,e332,hx332_0⟩:=Kd.at_int HR331_0.out x8_2 p332 q332
                 cases e332
                 replace hx332_0:=cellA HB hx332_0
                 replace p332:=eq_true p332
                 replace q332:=eq_true q332
                 go_wp2
                 (try simp only [← hl5_2])
                 go_roundg k2
                 case measure=>have:=HK1.out;have:=HK2.out;omega
                 case rel=>exact ⟨(x5_2),(x6_2),(wrap64 (x8_2 + 1)),(by first | rfl | (simp;done) | (simp [*];done)),H',⟨by have:=HK1.out;have:=HK2.out;omega⟩,⟨by (try simp only [hl5_1]);(try simp only [hl5_2]);(with_reducible repeat (first | apply Kd.R_alloc | apply Kd.R_drewN | apply Kd.R_drew));exact HO_5.out⟩,⟨by (try simp only [hl5_1]);(try simp only [hl5_2]);(with_reducible repeat (first | apply Kd.Q_alloc | apply Kd.Q_drewN | apply Kd.Q_drew));exact HO_6.out⟩,⟨by repeat (first | (with_reducible first | exact HB.out | apply below_alloc | apply pw_below_drewN | apply below_drew1) | exact HB.out)⟩⟩
                ·rw [if_neg c25] at H
                 have c25b0:((rd (rd_L2 l0 (rd x6_1 0)) x8_2) == a1) = false:=beq_eq_false_iff_ne.mpr c25
                 have c25b1:((rd (rd_L2 l0 (rd x6_1 0)) x8_2) != a1) = true:=bne_iff_ne.mpr c25
                 by_cases c26:0 ≤ (rd (rd_L2 l0 (rd x6_1 0)) x8_2)
                 ·rw [if_pos c26] at H
                  have c26b0:decide (0 ≤ (rd (rd_L2 l0 (rd x6_1 0)) x8_2)) = true:=decide_eq_true c26
                  clear c26
                  by_cases c27:(rd (rd_L2 l0 (rd x6_1 0)) x8_2) < (x5_2.length:Int)
                  ·rw [if_pos c27] at H
                   have c27b0:decide ((rd (rd_L2 l0 (rd x6_1 0)) x8_2) < (x5_2.length:Int)) = true:=decide_eq_true c27
                   clear c27
                   obtain ⟨bq28,hbq28⟩:∃ b_:Bool,b_ = (rdOf false x5_2 (rd (rd_L2 l0 (rd x6_1 0)) x8_2)):=⟨_,rfl⟩
                   replace H:(if (bq28 = true) then (quernref8_Without.l1 k2 l0 a1 x5_2 x6_2 (rd x6_1 0) (wrap64 (x8_2 + 1))) else (if x6_2.length < 17592186044416 then (quernref8_Without.l1 k2 l0 a1 (x5_2.set ((rd (rd_L2 l0 (rd x6_1 0)) x8_2):Int).toNat true) (x6_2 ++ [rd (rd_L2 l0 (rd x6_1 0)) x8_2]) (rd x6_1 0) (wrap64 (x8_2 + 1))) else (none))) = some r:=by rw [← hbq28] at H;exact H
                   have Nbq28:=Aside0.mk hbq28
                   clear hbq28
                   by_cases c29:(bq28 = true)
                   ·subst c29
                    have H1:(quernref8_Without.l1 k2 l0 a1 x5_2 x6_2 (rd x6_1 0) (wrap64 (x8_2 + 1))) = some r:=by rw [if_pos rfl] at H;exact H
                    clear H
                    have H:=H1
                    clear H1
                    have H':=Aside0.mk H
                    clear H
                    have p330:0 ≤ ((rd x6_1 0):Int):=of_decide_eq_true (by first | (with_reducible assumption) | assumption)
                    have q330:(rd x6_1 0) < (l0.length:Int):=of_decide_eq_true (by first | (with_reducible assumption) | assumption)
                    obtain ⟨ad330,A330_0,c330_0,e330,hx330_0,hl330_0,hi330_0⟩:=at_L2 HR0.out (rd x6_1 0) p330 q330
                    cases e330
                    replace hx330_0:=cellA HB hx330_0
                    have HR330_0:=Aside0.mk hi330_0
                    have HC330_0:=Aside0.mk hl330_0
                    clear hi330_0 hl330_0
                    replace p330:=eq_true p330
                    replace q330:=eq_true q330
                    have p331:0 ≤ ((rd x6_1 0):Int):=of_decide_eq_true (by first | (with_reducible assumption) | assumption)
                    have q331:(rd x6_1 0) < (l0.length:Int):=of_decide_eq_true (by first | (with_reducible assumption) | assumption)
                    obtain ⟨ad331,A331_0,c331_0,e331,hx331_0,hl331_0,hi331_0⟩:=at_L2 HR0.out (rd x6_1 0) p331 q331
                    obtain rfl:ad330 = ad331:=(by injection e331)
                    replace hx331_0:=cellA HB hx331_0
                    have HR331_0:=Aside0.mk hi331_0
                    have HC331_0:=Aside0.mk hl331_0
                    clear hi331_0 hl331_0
                    replace p331:=eq_true p331
                    replace q331:=eq_true q331
                    have ea_:=Option.some.inj (hx330_0.symm.trans hx331_0)
                    injection ea_ with ea_ en_ ec_
                    subst ea_
                    subst ec_
                    clear en_
                    have p332:0 ≤ (x8_2:Int):=of_decide_eq_true (by first | (with_reducible assumption) | assumption)
                    have q332:x8_2 < ((rd_L2 l0 (rd x6_1 0)).length:Int):=of_decide_eq_true (by first | (with_reducible assumption) | assumption)
                    obtain ⟨ad332,e332,hx332_0⟩:=Kd.at_int HR331_0.out x8_2 p332 q332
                    cases e332
                    replace hx332_0:=cellA HB hx332_0
                    replace p332:=eq_true p332
                    replace q332:=eq_true q332
                    have p333:0 ≤ ((rd (rd_L2 l0 (rd x6_1 0)) x8_2):Int):=of_decide_eq_true (by first | (with_reducible assumption) | assumption)
                    have q333:(rd (rd_L2 l0 (rd x6_1 0)) x8_2) < (x5_2.length:Int):=of_decide_eq_true (by first | (with_reducible assumption) | assumption)
                    obtain ⟨ad333,e333,hx333_0⟩:=Kd.at_bool (Kd.R_reads' HO_5.out).2.2 (rd (rd_L2 l0 (rd x6_1 0)) x8_2) p333 q333
                    (try rw [← Nbq28.out] at hx333_0)
                    obtain rfl:(⟨go9,0,none⟩:Addr) = ad333:=(by injection e333)
                    (first | simp only [add_plain] at hx333_0 | simp only [add_at] at hx333_0 | simp only [Addr.add,Nat.zero_add] at hx333_0 | skip)
                    replace p333:=eq_true p333
                    replace q333:=eq_true q333
                    go_wp2
                    (try simp only [← hl5_2])
                    go_roundg k2
                    case measure=>have:=HK1.out;have:=HK2.out;omega
                    case rel=>exact ⟨(x5_2),(x6_2),(wrap64 (x8_2 + 1)),(by first | rfl | (simp;done) | (simp [*];done)),H',⟨by have:=HK1.out;have:=HK2.out;omega⟩,⟨by (try simp only [hl5_1]);(try simp only [hl5_2]);(with_reducible repeat (first | apply Kd.R_alloc | apply Kd.R_drewN | apply Kd.R_drew));exact HO_5.out⟩,⟨by (try simp only [hl5_1]);(try simp only [hl5_2]);(with_reducible repeat (first | apply Kd.Q_alloc | apply Kd.Q_drewN | apply Kd.Q_drew));exact HO_6.out⟩,⟨by repeat (first | (with_reducible first | exact HB.out | apply below_alloc | apply pw_below_drewN | apply below_drew1) | exact HB.out)⟩⟩
                   ·replace c29:=Bool.eq_false_iff.mpr c29
                    subst c29
                    have H1:(if x6_2.length < 17592186044416 then (quernref8_Without.l1 k2 l0 a1 (x5_2.set ((rd (rd_L2 l0 (rd x6_1 0)) x8_2):Int).toNat true) (x6_2 ++ [rd (rd_L2 l0 (rd x6_1 0)) x8_2]) (rd x6_1 0) (wrap64 (x8_2 + 1))) else (none)) = some r:=by rw [if_neg (show ¬ (false = true) by decide)] at H;exact H
                    clear H
                    have H:=H1
                    clear H1
                    obtain ⟨y334,hy334⟩:∃ y_:List Bool,y_ = (x5_2.set ((rd (rd_L2 l0 (rd x6_1 0)) x8_2):Int).toNat true):=⟨_,rfl⟩
                    replace H:(if x6_2.length < 17592186044416 then (quernref8_Without.l1 k2 l0 a1 y334 (x6_2 ++ [rd (rd_L2 l0 (rd x6_1 0)) x8_2]) (rd x6_1 0) (wrap64 (x8_2 + 1))) else (none)) = some r:=by first | (rw [hy334];with_reducible exact H) | (have H2_:=(Option.bind_some _ _).symm.trans H;rw [hy334];with_reducible exact H2_) | (have H2_:=(Option.bind_some _ _).symm.trans H;with_reducible exact H2_) | with_reducible exact H | (rw [hy334];exact H) | exact H
                    have Ny334:=Aside0.mk hy334
                    clear hy334
                    by_cases c31:x6_2.length < 17592186044416
                    ·rw [if_pos c31] at H
                     have LMc31:=Aside0.mk c31
                     clear c31
                     obtain ⟨y335,hy335⟩:∃ y_:List Int,y_ = (x6_2 ++ [rd (rd_L2 l0 (rd x6_1 0)) x8_2]):=⟨_,rfl⟩
                     replace H:(quernref8_Without.l1 k2 l0 a1 y334 y335 (rd x6_1 0) (wrap64 (x8_2 + 1))) = some r:=by first | (rw [hy335];with_reducible exact H) | (have H2_:=(Option.bind_some _ _).symm.trans H;rw [hy335];with_reducible exact H2_) | (have H2_:=(Option.bind_some _ _).symm.trans H;with_reducible exact H2_) | with_reducible exact H | (rw [hy335];exact H) | exact H
                     have Ny335:=Aside0.mk hy335
                     clear hy335
                     have H':=Aside0.mk H
                     clear H
                     have p330:0 ≤ ((rd x6_1 0):Int):=of_decide_eq_true (by first | (with_reducible assumption) | assumption)
                     have q330:(rd x6_1 0) < (l0.length:Int):=of_decide_eq_true (by first | (with_reducible assumption) | assumption)
                     obtain ⟨ad330,A330_0,c330_0,e330,hx330_0,hl330_0,hi330_0⟩:=at_L2 HR0.out (rd x6_1 0) p330 q330
                     cases e330
                     replace hx330_0:=cellA HB hx330_0
                     have HR330_0:=Aside0.mk hi330_0
                     have HC330_0:=Aside0.mk hl330_0
                     clear hi330_0 hl330_0
                     replace p330:=eq_true p330
                     replace q330:=eq_true q330
                     have p331:0 ≤ ((rd x6_1 0):Int):=of_decide_eq_true (by first | (with_reducible assumption) | assumption)
                     have q331:(rd x6_1 0) < (l0.length:Int):=of_decide_eq_true (by first | (with_reducible assumption) | assumption)
                     obtain ⟨ad331,A331_0,c331_0,e331,hx331_0,hl331_0,hi331_0⟩:=at_L2 HR0.out (rd x6_1 0) p331 q331
                     obtain rfl:ad330 = ad331:=(by injection e331)
                     replace hx331_0:=cellA HB hx331_0
                     have HR331_0:=Aside0.mk hi331_0
                     have HC331_0:=Aside0.mk hl331_0
                     clear hi331_0 hl331_0
                     replace p331:=eq_true p331
                     replace q331:=eq_true q331
                     have ea_:=Option.some.inj (hx330_0.symm.trans hx331_0)
                     injection ea_ with ea_ en_ ec_
                     subst ea_
                     subst ec_
                     clear en_
                     have p332:0 ≤ (x8_2:Int):=of_decide_eq_true (by first | (with_reducible assumption) | assumption)
                     have q332:x8_2 < ((rd_L2 l0 (rd x6_1 0)).length:Int):=of_decide_eq_true (by first | (with_reducible assumption) | assumption)
                     obtain ⟨ad332,e332,hx332_0⟩:=Kd.at_int HR331_0.out x8_2 p332 q332
                     cases e332
                     replace hx332_0:=cellA HB hx332_0
                     replace p332:=eq_true p332
                     replace q332:=eq_true q332
                     have p333:0 ≤ ((rd (rd_L2 l0 (rd x6_1 0)) x8_2):Int):=of_decide_eq_true (by first | (with_reducible assumption) | assumption)
                     have q333:(rd (rd_L2 l0 (rd x6_1 0)) x8_2) < (x5_2.length:Int):=of_decide_eq_true (by first | (with_reducible assumption) | assumption)
                     obtain ⟨ad333,e333,hx333_0⟩:=Kd.at_bool (Kd.R_reads' HO_5.out).2.2 (rd (rd_L2 l0 (rd x6_1 0)) x8_2) p333 q333
                     (try rw [← Nbq28.out] at hx333_0)
                     obtain rfl:(⟨go9,0,none⟩:Addr) = ad333:=(by injection e333)
                     (first | simp only [add_plain] at hx333_0 | simp only [add_at] at hx333_0 | simp only [Addr.add,Nat.zero_add] at hx333_0 | skip)
                     replace p333:=eq_true p333
                     replace q333:=eq_true q333
                     have p30:0 ≤ ((rd (rd_L2 l0 (rd x6_1 0)) x8_2):Int):=of_decide_eq_true (by first | (with_reducible assumption) | assumption)
                     have q30:((rd (rd_L2 l0 (rd x6_1 0)) x8_2):Int) < ((x5_2.length:Int):Int):=of_decide_eq_true (by first | (with_reducible assumption) | assumption)
                     obtain ⟨hx30_0,hf30_0⟩:=Kd.R_celln false HO_5.out ((rd (rd_L2 l0 (rd x6_1 0)) x8_2):Int) p30 q30
                     replace p30:=eq_true p30
                     replace q30:=eq_true q30
                     have HP32:=Kd.R_putg HO_5.out ((rd (rd_L2 l0 (rd x6_1 0)) x8_2):Int) true
                     go_wp2_with (first | ((with_reducible refine gate_store (t:=4) (p:=55) rfl ?_);refine store_event (t:=4) (p:=55) (v:=?vo_w33) (w1:=(wr.setCell ⟨go9,((rd (rd_L2 l0 (rd x6_1 0)) x8_2):Int).toNat,none⟩ (.bool true))) ?hg ?ho ?hn ?hr ?_;(case ho=>rfl);(case hg=>rfl);(case hn=>rfl);(case hr=>first | (go_simp;done) | (go_simp;rfl));intro w33 hw;have hg:wr.grownBy w33 (some go9):=(by rw [hw];exact HP32.2);have hp_:Kd.R Kd.bool 4 w33 w.heap.size (fun _=>True) (.slice (some ⟨go9,0,none⟩) x5_2.length co9) y334:=(by rw [hw,Ny334.out];exact HP32.1);clear HP32;have n0_:=Aside0.mk (hp_);have n1_:=Aside0.mk (Kd.Q_over' (v:=(.slice (some ⟨go9,0,none⟩) x5_2.length co9)) (by (with_reducible repeat (first | apply Kd.Q_alloc | apply Kd.Q_drewN | apply Kd.Q_drew));exact HO_6.out) (Kd.R_typed HO_5.out) (by decide) hg);have n2_:=Aside0.mk ((by rw [hw];exact below_set (HB.out) GB9.out:Below w.heap.size w w33));clear HO_5;clear HO_6;clear HB;have HO_5:=n0_;have HO_6:=n1_;have HB:=n2_;clear n0_ n1_ n2_;clear hg hw hp_) | ((with_reducible refine gate_builtin (b:=.append) (xs:=#[.tmp 56,.tmp 58]) rfl ?_);at_builtin;refine Kd.Q_append (Kd.int .i64) (w0:=w) w.heap.size rfl (.tmp 56) (.tmp 58) 34 3 (.int .i64 0) 8 rfl Try.underlying34 info3 rfl (by decide) (by omega) u6 x6_2 (rd (rd_L2 l0 (rd x6_1 0)) x8_2) [.int .i64 (rd (rd_L2 l0 (rd x6_1 0)) x8_2)] (fun _=>True) (fun _=>False) rfl rfl ?aP (fun _ hk=>hk.elim) ?aF ?aO ?aB ?aS ?aL ?_;(case aP=>exact rfl);(case aB=>exact (by repeat (first | (with_reducible first | exact HB.out | apply below_alloc | apply pw_below_drewN | apply below_drew1) | exact HB.out)));(case aF=>exact (fun _ _=>trivial));(case aO=>exact (by (with_reducible repeat (first | apply Kd.Q_alloc | apply Kd.Q_drewN | apply Kd.Q_drew));exact HO_6.out));(case aS=>exact (below_size (by repeat (first | (with_reducible first | exact HB.out | apply below_alloc | apply pw_below_drewN | apply below_drew1) | exact HB.out))));(case aL=>have:=LMc31.out;omega);intro v336 w34 ho hb hg hat;rw [← Ny335.out] at ho;have n0_:=Aside0.mk (Kd.R_over' (by (with_reducible repeat (first | apply Kd.R_alloc | apply Kd.R_drewN | apply Kd.R_drew));exact HO_5.out) (Kd.Q_typed (by (with_reducible repeat (first | apply Kd.Q_alloc | apply Kd.Q_drewN | apply Kd.Q_drew));exact HO_6.out)) (by decide) hg);have n1_:=Aside0.mk (hb);have n2_:=Aside0.mk (ho);clear HO_5;clear HB;clear HO_6;have HO_5:=n0_;have HB:=n1_;have HO337:=n2_;clear n0_ n1_ n2_;clear ho hb hg hat))
                     (try simp only [← hl5_2])
                     go_roundg k2
                     case measure=>have:=HK1.out;have:=HK2.out;omega
                     case rel=>exact ⟨(y334),(y335),(wrap64 (x8_2 + 1)),(by first | rfl | (simp;done) | (simp [*];done)),H',⟨by have:=HK1.out;have:=HK2.out;omega⟩,⟨by (try simp only [hl5_1]);(try simp only [hl5_2]);(with_reducible repeat (first | apply Kd.R_alloc | apply Kd.R_drewN | apply Kd.R_drew));exact HO_5.out⟩,⟨by (try simp only [hl5_1]);(try simp only [hl5_2]);(with_reducible repeat (first | apply Kd.Q_alloc | apply Kd.Q_drewN | apply Kd.Q_drew));exact HO337.out⟩,⟨by repeat (first | (with_reducible first | exact HB.out | apply below_alloc | apply pw_below_drewN | apply below_drew1) | exact HB.out)⟩⟩
                    ·rw [if_neg c31] at H
                     exact absurd H (by simp)
                  ·rw [if_neg c27] at H
                   exact absurd H (by simp)
                 ·rw [if_neg c26] at H
                  exact absurd H (by simp)
               ·rw [if_neg c24] at H
                exact absurd H (by simp)
              ·rw [if_neg c23] at H
               have c23b0:decide (x8_2 < ((rd_L2 l0 (rd x6_1 0)).length:Int)) = false:=decide_eq_false c23
               clear c23
               have H':=Aside0.mk H
               clear H
               have p330:0 ≤ ((rd x6_1 0):Int):=of_decide_eq_true (by first | (with_reducible assumption) | assumption)
               have q330:(rd x6_1 0) < (l0.length:Int):=of_decide_eq_true (by first | (with_reducible assumption) | assumption)
               obtain ⟨ad330,A330_0,c330_0,e330,hx330_0,hl330_0,hi330_0⟩:=at_L2 HR0.out (rd x6_1 0) p330 q330
               cases e330
               replace hx330_0:=cellA HB hx330_0
               have HR330_0:=Aside0.mk hi330_0
               have HC330_0:=Aside0.mk hl330_0
               clear hi330_0 hl330_0
               replace p330:=eq_true p330
               replace q330:=eq_true q330
               go_wp2
               (try simp only [← hl5_1,← hl5_2])
               go_roundg k2
               case measure=>have:=HK1.out;have:=HK2.out;omega
               case rel=>exact ⟨(x5_2),(x6_2),H',⟨by have:=HK1.out;have:=HK2.out;omega⟩,⟨by (try simp only [hl5_1]);(try simp only [hl5_2]);(with_reducible repeat (first | apply Kd.R_alloc | apply Kd.R_drewN | apply Kd.R_drew));exact HO_5.out⟩,⟨by (try simp only [hl5_1]);(try simp only [hl5_2]);(with_reducible repeat (first | apply Kd.Q_alloc | apply Kd.Q_drewN | apply Kd.Q_drew));exact HO_6.out⟩,⟨by repeat (first | (with_reducible first | exact HB.out | apply below_alloc | apply pw_below_drewN | apply below_drew1) | exact HB.out)⟩⟩
             ·rw [if_neg c22] at H
              exact absurd H (by simp)
            ·rw [if_neg c21] at H
             exact absurd H (by simp)
         ·rw [if_neg c18] at H
          exact absurd H (by simp)
        ·rw [if_neg c17] at H
         exact absurd H (by simp)
       ·rw [if_neg c16] at H
        have c16b0:decide (0 < (x6_1.length:Int)) = false:=decide_eq_false c16
        have c16b1:decide (0 < x6_1.length) = false:=decide_eq_false (by omega)
        clear c16
        obtain rfl:=Option.some.inj H
        obtain ⟨Ao35,co35,eo35,_⟩:=Kd.Q_slice HO_6.out
        subst eo35
        go_wp2
        go_ret
        exact ⟨_,by first | rfl | (simp [errW_none,errW_some] <;> rfl) | (simp [*,errW_none,errW_some] <;> rfl),by (with_reducible repeat (first | apply Kd.R_alloc | apply Kd.R_drewN | apply Kd.R_drew));exact HO_5.out,by repeat (first | (with_reducible first | exact HB.out | apply below_alloc | apply pw_below_drewN | apply below_drew1) | exact HB.out)⟩
    ·rw [if_neg c8] at H
     exact absurd H (by simp)
  ·rw [if_neg c4] at H
   exact absurd H (by simp)
 ·rw [if_neg c3] at H
  exact absurd H (by simp)
def quernref8_Reach.f (k:Nat) (l0:List (List Int)):Option (List Bool):=(quernref8_Good.f k l0).bind fun t338=>(if t338 = true then ((quernref8_Without.f k l0 (-1)).bind fun t339=>(some t339)) else (some ([]:List Bool)))
theorem quernref8_Reach.mono:∀ a0 k,LeO (quernref8_Reach.f k a0) (quernref8_Reach.f (k + 1) a0):=by
 intro a0 k
 unfold quernref8_Reach.f
 repeat' first
  | (with_reducible exact quernref8_Good.mono _ _)
  | (with_reducible exact quernref8_Without.mono _ _ _)
  | (with_reducible exact LeO.refl _)
  | (with_reducible exact LeO.none _)
  | (with_reducible refine LeO.ite ?_ ?_)
  | (with_reducible refine LeO.bind ?_ (fun _=>?_))
  | exact quernref8_Good.mono _ _
  | exact quernref8_Without.mono _ _ _
  | exact LeO.none _
  | refine LeO.ite ?_ ?_
  | refine LeO.bind ?_ (fun _=>?_)
set_option maxHeartbeats 8000000 in
set_option maxRecDepth 100000 in
theorem quernref8_Reach.calls (k:Nat) (A0:Option Addr) (c0:Nat) (l0:List (List Int)) (r:List Bool) (w:World) (hr0:Kd.C (Kd.slice 3 (Kd.int .i64)) w A0 l0.length l0) (hc0:l0.length ≤ c0) (h:quernref8_Reach.f k l0 = some r) :
 Calls Try.prog 53 #[.slice A0 l0.length c0] w fun e w'=>∃ v0_:Value,e = .returned (v0_) ∧ Kd.R Kd.bool 4 w' w.heap.size (fun _=>True) v0_ r ∧ Below w.heap.size w w':=by
 have HR0:=Aside0.mk hr0
 have HC0:=Aside0.mk hc0
 clear hr0 hc0
 have HB:=Aside0.mk (Below.refl w.heap.size w)
 have H:((quernref8_Good.f k l0).bind fun t338=>(if t338 = true then ((quernref8_Without.f k l0 (-1)).bind fun t339=>(some t339)) else (some ([]:List Bool)))) = some r:=h
 clear h
 replace H:=Option.bind_eq_some_iff.mp H
 obtain ⟨t338,A20,H⟩:=H
 replace H:(if t338 = true then ((quernref8_Without.f k l0 (-1)).bind fun t339=>(some t339)) else (some ([]:List Bool))) = some r:=H
 have A2:=Aside0.mk A20
 clear A20
 by_cases c3:t338 = true
 ·subst c3
  have H1:((quernref8_Without.f k l0 (-1)).bind fun t339=>(some t339)) = some r:=by rw [if_pos rfl] at H;exact H
  clear H
  have H:=H1
  clear H1
  replace H:=Option.bind_eq_some_iff.mp H
  obtain ⟨t339,A40,H⟩:=H
  replace H:(some t339) = some r:=H
  have A4:=Aside0.mk A40
  clear A40
  obtain rfl:=Option.some.inj H
  go_enter Try.func53,Try.ntmps53
  go_wp2_with (first | ((with_reducible refine gate_callee (f:=77) rfl ?_);refine goesL_ (some 4) rfl rfl Try.func77 (by kernel_rfl) rfl #[.slice A0 l0.length c0] rfl (by (try simp only [List.map_toArray,List.map_cons,List.map_nil]);first | done | rfl | (simp only [List.length_drop,List.length_take];rfl)) ?_;(with_reducible refine (quernref8_Good.calls k _ _ l0 true _ ?side1 ?side2 A2.out).mono ?_);(case side1=>repeat (first | exact HR0.out | (with_reducible refine Kd.C_alloc ?_ _) | (with_reducible refine Kd.C_drewN ?_ _) | (with_reducible refine Kd.C_drew ?_)));(case side2=>exact HC0.out);rintro e w' ⟨rfl,⟨nd,rfl⟩⟩;refine ⟨_,rfl,?_⟩) | ((with_reducible refine gate_callee (f:=78) rfl ?_);refine goesL_ (some 7) rfl rfl Try.func78 (by kernel_rfl) rfl #[.slice A0 l0.length c0,.int .i64 (-1)] rfl (by (try simp only [List.map_toArray,List.map_cons,List.map_nil]);first | done | rfl | (simp only [List.length_drop,List.length_take];rfl)) ?_;(with_reducible refine (quernref8_Without.calls k _ _ l0 (-1) t339 _ ?side1 ?side2 A4.out).mono ?_);(case side1=>repeat (first | exact HR0.out | (with_reducible refine Kd.C_alloc ?_ _) | (with_reducible refine Kd.C_drewN ?_ _) | (with_reducible refine Kd.C_drew ?_)));(case side2=>exact HC0.out);rintro e w5 ⟨v340,rfl,ho0,hb⟩;refine ⟨_,rfl,?_⟩;have n0_:=Aside0.mk (Kd.R_lower ho0 (below_size (by repeat (first | (with_reducible first | exact HB.out | apply below_alloc | apply pw_below_drewN | apply below_drew1) | exact HB.out))));have n1_:=Aside0.mk (below_step (by repeat (first | (with_reducible first | exact HB.out | apply below_alloc | apply pw_below_drewN | apply below_drew1) | exact HB.out)) hb);clear HB;have HO341:=n0_;have HB:=n1_;clear n0_ n1_;(try clear hb);(try clear hb2);(try clear hk);(try clear hi);(try clear ho0)))
  go_ret
  exact ⟨_,by first | rfl | (simp [errW_none,errW_some] <;> rfl) | (simp [*,errW_none,errW_some] <;> rfl),by (with_reducible repeat (first | apply Kd.R_alloc | apply Kd.R_drewN | apply Kd.R_drew));exact HO341.out,by repeat (first | (with_reducible first | exact HB.out | apply below_alloc | apply pw_below_drewN | apply below_drew1) | exact HB.out)⟩
 ·replace c3:=Bool.eq_false_iff.mpr c3
  subst c3
  have H1:(some ([]:List Bool)) = some r:=by rw [if_neg (show ¬ (false = true) by decide)] at H;exact H
  clear H
  have H:=H1
  clear H1
  obtain rfl:=Option.some.inj H
  go_enter Try.func53,Try.ntmps53
  go_wp2_with (first | ((with_reducible refine gate_callee (f:=77) rfl ?_);refine goesL_ (some 4) rfl rfl Try.func77 (by kernel_rfl) rfl #[.slice A0 l0.length c0] rfl (by (try simp only [List.map_toArray,List.map_cons,List.map_nil]);first | done | rfl | (simp only [List.length_drop,List.length_take];rfl)) ?_;(with_reducible refine (quernref8_Good.calls k _ _ l0 false _ ?side1 ?side2 A2.out).mono ?_);(case side1=>repeat (first | exact HR0.out | (with_reducible refine Kd.C_alloc ?_ _) | (with_reducible refine Kd.C_drewN ?_ _) | (with_reducible refine Kd.C_drew ?_)));(case side2=>exact HC0.out);rintro e w' ⟨rfl,⟨nd,rfl⟩⟩;refine ⟨_,rfl,?_⟩))
  go_ret
  exact ⟨_,by first | rfl | (simp [errW_none,errW_some] <;> rfl) | (simp [*,errW_none,errW_some] <;> rfl),by first | exact Kd.R_nil _ _ _ _ _ | exact Kd.N_nil _ _ _ _ _ | exact Kd.V_nil _ _ _ _ _ | exact Kd.Q_nil _ _ _ _ _ | exact Kd.S_nil _ _ _ _ _,by repeat (first | (with_reducible first | exact HB.out | apply below_alloc | apply pw_below_drewN | apply below_drew1) | exact HB.out)⟩
end Go.Proofs.Ytgbeliajhccndaa.PP
