/- Lemmas of this claim (PP1). -/
import Derived.Test.YtgbeliajhccndaaKE
import Derived.Test.YtgbeliajhccndaaKD
namespace Go.Proofs.Ytgbeliajhccndaa.PP
open Go.RowKit Go.Proofs.YtgbeliajhccndaaW.PrintWords Go.Proofs.YtgbeliajhccndaaW.PrintLast Go.Proofs.YtgbeliajhccndaaW.PrintMore
attribute [local go_sem] max2_int min2_int max_two min_two max_three min_three max_four min_four   
set_option linter.unusedVariables false
set_option linter.unusedSimpArgs false
def ssa_isType.f (a0:Int):Option (Bool):=if a0 ≥ 1 then (some (decide (a0 ≤ 3))) else (some false)
set_option maxHeartbeats 8000000 in
set_option maxRecDepth 100000 in
theorem ssa_isType.calls (a0:Int) (r:Bool) (w:World) (h:ssa_isType.f a0 = some r) :
 Calls Try.prog 62 #[.int .i64 a0] w fun e w'=>e = .returned (.bool r) ∧ Drawn0 w w':=by
 have H:(if a0 ≥ 1 then (some (decide (a0 ≤ 3))) else (some false)) = some r:=h
 clear h
 by_cases c2:a0 ≥ 1
 ·rw [if_pos c2] at H
  have c2b0:decide (1 ≤ a0) = true:=decide_eq_true c2
  clear c2
  obtain rfl:=Option.some.inj H
  go_enter Try.func62,Try.ntmps62
  go_wp2
  go_ret
  exact ⟨by first | rfl | (simp;done) | (simp [*];done),by repeat (first | exact Drawn0.refl _ | apply Drawn0.step)⟩
 ·rw [if_neg c2] at H
  have c2b0:decide (1 ≤ a0) = false:=decide_eq_false c2
  clear c2
  obtain rfl:=Option.some.inj H
  go_enter Try.func62,Try.ntmps62
  go_wp2
  go_ret
  exact ⟨by first | rfl | (simp;done) | (simp [*];done),by repeat (first | exact Drawn0.refl _ | apply Drawn0.step)⟩
def ssa_operands.j0:Nat → Int → Int → Bool → Option (Int)
 | 0,_,_,_=>none
 | k + 1,x0,x3,x6=>if x6 = true then (some 1) else (if x3 = 21 then (some 2) else (if x3 = 22 then (some 3) else (if x0 ≥ 2 then (if x0 ≤ 16 then (some 2) else (some (-1))) else (some (-1)))))
def ssa_operands.f (k:Nat) (a0:Int):Option (Int):=if a0 = 24 then (some 0) else (if a0 = 17 then (ssa_operands.j0 k a0 a0 (a0 == 17)) else (if a0 = 18 then (ssa_operands.j0 k a0 a0 (a0 == 18)) else (if a0 = 19 then (ssa_operands.j0 k a0 a0 (a0 == 19)) else (if a0 = 20 then (ssa_operands.j0 k a0 a0 (a0 == 20)) else (if a0 = 23 then (ssa_operands.j0 k a0 a0 (a0 == 23)) else (if a0 = 26 then (ssa_operands.j0 k a0 a0 (a0 == 26)) else (ssa_operands.j0 k a0 a0 (a0 == 27))))))))
theorem ssa_operands.mono_l:∀ k,(∀ y0 y1 y2,LeO (ssa_operands.j0 k y0 y1 y2) (ssa_operands.j0 (k + 1) y0 y1 y2))
 | 0=>fun _ _ _ r h=>by simp [ssa_operands.j0] at h
 | k + 1=>by
  have ih0:=ssa_operands.mono_l k
  ·intro y0 y1 y2
   unfold ssa_operands.j0
   repeat' first
   | (with_reducible exact ih0 _ _ _)
   | (with_reducible exact LeO.refl _)
   | (with_reducible exact LeO.none _)
   | (with_reducible refine LeO.ite ?_ ?_)
   | (with_reducible refine LeO.bind ?_ (fun _=>?_))
   | exact ih0 _ _ _
   | exact LeO.none _
   | refine LeO.ite ?_ ?_
   | refine LeO.bind ?_ (fun _=>?_)
theorem ssa_operands.mono:∀ a0 k,LeO (ssa_operands.f k a0) (ssa_operands.f (k + 1) a0):=by
 intro a0 k
 have ih0:=ssa_operands.mono_l k
 unfold ssa_operands.f
 repeat' first
  | (with_reducible exact ih0 _ _ _)
  | (with_reducible exact LeO.refl _)
  | (with_reducible exact LeO.none _)
  | (with_reducible refine LeO.ite ?_ ?_)
  | (with_reducible refine LeO.bind ?_ (fun _=>?_))
  | exact ih0 _ _ _
  | exact LeO.none _
  | refine LeO.ite ?_ ?_
  | refine LeO.bind ?_ (fun _=>?_)
set_option maxHeartbeats 8000000 in
set_option maxRecDepth 100000 in
theorem ssa_operands.calls (k:Nat) (a0:Int) (r:Int) (w:World) (h:ssa_operands.f k a0 = some r) :
 Calls Try.prog 84 #[.int .i64 a0] w fun e w'=>e = .returned (.int .i64 r) ∧ Drawn0 w w':=by
 have H:(if a0 = 24 then (some 0) else (if a0 = 17 then (ssa_operands.j0 k a0 a0 (a0 == 17)) else (if a0 = 18 then (ssa_operands.j0 k a0 a0 (a0 == 18)) else (if a0 = 19 then (ssa_operands.j0 k a0 a0 (a0 == 19)) else (if a0 = 20 then (ssa_operands.j0 k a0 a0 (a0 == 20)) else (if a0 = 23 then (ssa_operands.j0 k a0 a0 (a0 == 23)) else (if a0 = 26 then (ssa_operands.j0 k a0 a0 (a0 == 26)) else (ssa_operands.j0 k a0 a0 (a0 == 27))))))))) = some r:=h
 clear h
 by_cases c2:a0 = 24
 ·rw [if_pos c2] at H
  have c2b0:(a0 == 24) = true:=beq_iff_eq.mpr c2
  have c2b1:(a0 != 24) = false:=bne_eq_false_iff_eq.mpr c2
  clear c2
  obtain rfl:=Option.some.inj H
  go_enter Try.func84,Try.ntmps84
  go_wp2
  go_ret
  exact ⟨by first | rfl | (simp;done) | (simp [*];done),by repeat (first | exact Drawn0.refl _ | apply Drawn0.step)⟩
 ·rw [if_neg c2] at H
  have c2b0:(a0 == 24) = false:=beq_eq_false_iff_ne.mpr c2
  have c2b1:(a0 != 24) = true:=bne_iff_ne.mpr c2
  have HC3:=Aside0.mk H
  clear H
  go_enter Try.func84,Try.ntmps84
  go_upto_if 6 with (fail)
  go_cut [6] (fun v6 wc=>∃ (kq:Nat) (x6_2:Bool),v6 = .bool x6_2 ∧ Aside0 (ssa_operands.j0 kq a0 a0 x6_2 = some r) ∧ Aside0 (kq ≤ k) ∧ Drawn0 w wc)
  case first=>
   have H:=HC3.out
   clear HC3
   by_cases c4:a0 = 17
   ·rw [if_pos c4] at H
    have c4b0:(a0 == 17) = true:=beq_iff_eq.mpr c4
    have c4b1:(a0 != 17) = false:=bne_eq_false_iff_eq.mpr c4
    clear c4
    (first | rw [c4b0] | (simp only [i64_w,i32_w];rw [c4b0]) | skip)
    have H':=Aside0.mk H
    clear H
    go_wp2
    go_meet
    case rel=>exact ⟨_,((a0 == 17)),(by first | rfl | (simp;done) | (simp [*];done)),H',⟨by first | omega | exact Nat.le_refl _⟩,by repeat (first | exact Drawn0.refl _ | apply Drawn0.step)⟩
   ·rw [if_neg c4] at H
    have c4b0:(a0 == 17) = false:=beq_eq_false_iff_ne.mpr c4
    have c4b1:(a0 != 17) = true:=bne_iff_ne.mpr c4
    (first | rw [c4b0] | (simp only [i64_w,i32_w];rw [c4b0]) | skip)
    by_cases c5:a0 = 18
    ·rw [if_pos c5] at H
     have c5b0:(a0 == 18) = true:=beq_iff_eq.mpr c5
     have c5b1:(a0 != 18) = false:=bne_eq_false_iff_eq.mpr c5
     clear c5
     have H':=Aside0.mk H
     clear H
     go_wp2
     go_meet
     case rel=>exact ⟨_,((a0 == 18)),(by first | rfl | (simp;done) | (simp [*];done)),H',⟨by first | omega | exact Nat.le_refl _⟩,by repeat (first | exact Drawn0.refl _ | apply Drawn0.step)⟩
    ·rw [if_neg c5] at H
     have c5b0:(a0 == 18) = false:=beq_eq_false_iff_ne.mpr c5
     have c5b1:(a0 != 18) = true:=bne_iff_ne.mpr c5
     by_cases c6:a0 = 19
     ·rw [if_pos c6] at H
      have c6b0:(a0 == 19) = true:=beq_iff_eq.mpr c6
      have c6b1:(a0 != 19) = false:=bne_eq_false_iff_eq.mpr c6
      clear c6
      have H':=Aside0.mk H
      clear H
      go_wp2
      go_meet
      case rel=>exact ⟨_,((a0 == 19)),(by first | rfl | (simp;done) | (simp [*];done)),H',⟨by first | omega | exact Nat.le_refl _⟩,by repeat (first | exact Drawn0.refl _ | apply Drawn0.step)⟩
     ·rw [if_neg c6] at H
      have c6b0:(a0 == 19) = false:=beq_eq_false_iff_ne.mpr c6
      have c6b1:(a0 != 19) = true:=bne_iff_ne.mpr c6
      by_cases c7:a0 = 20
      ·rw [if_pos c7] at H
       have c7b0:(a0 == 20) = true:=beq_iff_eq.mpr c7
       have c7b1:(a0 != 20) = false:=bne_eq_false_iff_eq.mpr c7
       clear c7
       have H':=Aside0.mk H
       clear H
       go_wp2
       go_meet
       case rel=>exact ⟨_,((a0 == 20)),(by first | rfl | (simp;done) | (simp [*];done)),H',⟨by first | omega | exact Nat.le_refl _⟩,by repeat (first | exact Drawn0.refl _ | apply Drawn0.step)⟩
      ·rw [if_neg c7] at H
       have c7b0:(a0 == 20) = false:=beq_eq_false_iff_ne.mpr c7
       have c7b1:(a0 != 20) = true:=bne_iff_ne.mpr c7
       by_cases c8:a0 = 23
       ·rw [if_pos c8] at H
        have c8b0:(a0 == 23) = true:=beq_iff_eq.mpr c8
        have c8b1:(a0 != 23) = false:=bne_eq_false_iff_eq.mpr c8
        clear c8
        have H':=Aside0.mk H
        clear H
        go_wp2
        go_meet
        case rel=>exact ⟨_,((a0 == 23)),(by first | rfl | (simp;done) | (simp [*];done)),H',⟨by first | omega | exact Nat.le_refl _⟩,by repeat (first | exact Drawn0.refl _ | apply Drawn0.step)⟩
       ·rw [if_neg c8] at H
        have c8b0:(a0 == 23) = false:=beq_eq_false_iff_ne.mpr c8
        have c8b1:(a0 != 23) = true:=bne_iff_ne.mpr c8
        by_cases c9:a0 = 26
        ·rw [if_pos c9] at H
         have c9b0:(a0 == 26) = true:=beq_iff_eq.mpr c9
         have c9b1:(a0 != 26) = false:=bne_eq_false_iff_eq.mpr c9
         clear c9
         have H':=Aside0.mk H
         clear H
         go_wp2
         go_meet
         case rel=>exact ⟨_,((a0 == 26)),(by first | rfl | (simp;done) | (simp [*];done)),H',⟨by first | omega | exact Nat.le_refl _⟩,by repeat (first | exact Drawn0.refl _ | apply Drawn0.step)⟩
        ·rw [if_neg c9] at H
         have c9b0:(a0 == 26) = false:=beq_eq_false_iff_ne.mpr c9
         have c9b1:(a0 != 26) = true:=bne_iff_ne.mpr c9
         have H':=Aside0.mk H
         clear H
         go_wp2
         go_meet
         case rel=>exact ⟨_,((a0 == 27)),(by first | rfl | (simp;done) | (simp [*];done)),H',⟨by first | omega | exact Nat.le_refl _⟩,by repeat (first | exact Drawn0.refl _ | apply Drawn0.step)⟩
  case rest=>
   clear HC3
   try clear c2
   try clear c2b0
   try clear c2b1
   try clear p2
   try clear c4
   try clear c4b0
   try clear c4b1
   try clear c5
   try clear c5b0
   try clear c5b1
   try clear c6
   try clear c6b0
   try clear c6b1
   try clear c7
   try clear c7b0
   try clear c7b1
   try clear c8
   try clear c8b0
   try clear c8b1
   try clear c9
   try clear c9b0
   try clear c9b1
   obtain ⟨kq,x6_2,rfl,HA,HJ2,⟨mc2,rfl⟩⟩:=hcut
   cases kq with
   | zero=>exact absurd HA.out (by simp [ssa_operands.j0])
   | succ kj2=>
    have H:=HA.out
    clear HA
    simp only [ssa_operands.j0] at H
    by_cases c10:x6_2 = true
    ·subst c10
     have H1:(some 1) = some r:=by rw [if_pos rfl] at H;exact H
     clear H
     have H:=H1
     clear H1
     obtain rfl:=Option.some.inj H
     go_wp2
     go_ret
     exact ⟨by first | rfl | (simp;done) | (simp [*];done),by repeat (first | exact Drawn0.refl _ | apply Drawn0.step)⟩
    ·replace c10:=Bool.eq_false_iff.mpr c10
     subst c10
     have H1:(if a0 = 21 then (some 2) else (if a0 = 22 then (some 3) else (if a0 ≥ 2 then (if a0 ≤ 16 then (some 2) else (some (-1))) else (some (-1))))) = some r:=by rw [if_neg (show ¬ (false = true) by decide)] at H;exact H
     clear H
     have H:=H1
     clear H1
     by_cases c11:a0 = 21
     ·rw [if_pos c11] at H
      have c11b0:(a0 == 21) = true:=beq_iff_eq.mpr c11
      have c11b1:(a0 != 21) = false:=bne_eq_false_iff_eq.mpr c11
      clear c11
      obtain rfl:=Option.some.inj H
      go_wp2
      go_ret
      exact ⟨by first | rfl | (simp;done) | (simp [*];done),by repeat (first | exact Drawn0.refl _ | apply Drawn0.step)⟩
     ·rw [if_neg c11] at H
      have c11b0:(a0 == 21) = false:=beq_eq_false_iff_ne.mpr c11
      have c11b1:(a0 != 21) = true:=bne_iff_ne.mpr c11
      by_cases c12:a0 = 22
      ·rw [if_pos c12] at H
       have c12b0:(a0 == 22) = true:=beq_iff_eq.mpr c12
       have c12b1:(a0 != 22) = false:=bne_eq_false_iff_eq.mpr c12
       clear c12
       obtain rfl:=Option.some.inj H
       go_wp2
       go_ret
       exact ⟨by first | rfl | (simp;done) | (simp [*];done),by repeat (first | exact Drawn0.refl _ | apply Drawn0.step)⟩
      ·rw [if_neg c12] at H
       have c12b0:(a0 == 22) = false:=beq_eq_false_iff_ne.mpr c12
       have c12b1:(a0 != 22) = true:=bne_iff_ne.mpr c12
       by_cases c13:a0 ≥ 2
       ·rw [if_pos c13] at H
        have c13b0:decide (2 ≤ a0) = true:=decide_eq_true c13
        clear c13
        by_cases c14:a0 ≤ 16
        ·rw [if_pos c14] at H
         have c14b0:decide (a0 ≤ 16) = true:=decide_eq_true c14
         clear c14
         obtain rfl:=Option.some.inj H
         go_wp2
         go_ret
         exact ⟨by first | rfl | (simp;done) | (simp [*];done),by repeat (first | exact Drawn0.refl _ | apply Drawn0.step)⟩
        ·rw [if_neg c14] at H
         have c14b0:decide (a0 ≤ 16) = false:=decide_eq_false c14
         clear c14
         obtain rfl:=Option.some.inj H
         go_wp2
         go_ret
         exact ⟨by first | rfl | (simp;done) | (simp [*];done),by repeat (first | exact Drawn0.refl _ | apply Drawn0.step)⟩
       ·rw [if_neg c13] at H
        have c13b0:decide (2 ≤ a0) = false:=decide_eq_false c13
        clear c13
        obtain rfl:=Option.some.inj H
        go_wp2
        go_ret
        exact ⟨by first | rfl | (simp;done) | (simp [*];done),by repeat (first | exact Drawn0.refl _ | apply Drawn0.step)⟩
mutual
def ssa_formedValue.j0:Nat → Bool → List (S38) → Int → Int → Int → Int → List Int → Option (Bool)
 | 0,_,_,_,_,_,_,_=>none
 | k + 1,x14,x110000,x110001,x111000,x111001,x111002,x111003=>if x14 = true then (some false) else (if x111000 = 1 then (ssa_formedValue.j1 k x111000 (x111000 == 1) x110000 x110001 x111000 x111001 x111002 x111003) else (ssa_formedValue.j1 k x111000 (x111000 == 33) x110000 x110001 x111000 x111001 x111002 x111003))
def ssa_formedValue.j1:Nat → Int → Bool → List (S38) → Int → Int → Int → Int → List Int → Option (Bool)
 | 0,_,_,_,_,_,_,_,_=>none
 | k + 1,x16,x17,x110000,x110001,x111000,x111001,x111002,x111003=>if x17 = true then (some ((x111003.length:Int) == 0)) else (if x16 = 32 then (some (x111002 == 0)) else (if x16 = 25 then (if x111002 ≥ 0 then (if x111002 < (x110000.length:Int) then (if 0 ≤ x111002 then (some ((x111003.length:Int) == (((rd_T38 x110000 x111002).f1).length:Int))) else (none)) else (some false)) else (some false)) else (if x16 = 28 then (ssa_formedValue.j2 k x16 (x16 == 28) x111000 x111001 x111002 x111003) else (ssa_formedValue.j2 k x16 (x16 == 29) x111000 x111001 x111002 x111003))))
def ssa_formedValue.j2:Nat → Int → Bool → Int → Int → Int → List Int → Option (Bool)
 | 0,_,_,_,_,_,_=>none
 | k + 1,x16,x56,x111000,x111001,x111002,x111003=>if x56 = true then (if (x111003.length:Int) = 1 then (if x111002 ≥ 1 then (some (decide (x111002 ≤ 5))) else (some false)) else (some false)) else (if x16 = 30 then (if (x111003.length:Int) = 2 then (if x111002 ≥ 1 then (some (decide (x111002 ≤ 5))) else (some false)) else (some false)) else ((ssa_operands.f k x111000).bind fun t113=>(if t113 ≥ 0 then (if (x111003.length:Int) = t113 then (some (x111002 == 0)) else (some false)) else (some false))))
end
def ssa_formedValue.f (k:Nat) (l0_0:List (S38)) (a0_1:Int) (a1_0:Int) (a1_1:Int) (a1_2:Int) (l1_3:List Int):Option (Bool):=if a1_1 = 0 then (ssa_formedValue.j0 k false l0_0 a0_1 a1_0 a1_1 a1_2 l1_3) else ((ssa_isType.f a1_1).bind fun t111=>(ssa_formedValue.j0 k (!t111) l0_0 a0_1 a1_0 a1_1 a1_2 l1_3))
theorem ssa_formedValue.mono_l:∀ k,(∀ y0 y1 y2 y3 y4 y5 y6,LeO (ssa_formedValue.j0 k y0 y1 y2 y3 y4 y5 y6) (ssa_formedValue.j0 (k + 1) y0 y1 y2 y3 y4 y5 y6)) ∧ (∀ y0 y1 y2 y3 y4 y5 y6 y7,LeO (ssa_formedValue.j1 k y0 y1 y2 y3 y4 y5 y6 y7) (ssa_formedValue.j1 (k + 1) y0 y1 y2 y3 y4 y5 y6 y7)) ∧ (∀ y0 y1 y2 y3 y4 y5,LeO (ssa_formedValue.j2 k y0 y1 y2 y3 y4 y5) (ssa_formedValue.j2 (k + 1) y0 y1 y2 y3 y4 y5))
 | 0=>⟨fun _ _ _ _ _ _ _ r h=>by simp [ssa_formedValue.j0] at h,fun _ _ _ _ _ _ _ _ r h=>by simp [ssa_formedValue.j1] at h,fun _ _ _ _ _ _ r h=>by simp [ssa_formedValue.j2] at h⟩
 | k + 1=>by
  obtain ⟨ih0,ih1,ih2⟩:=ssa_formedValue.mono_l k
  refine ⟨?_,?_,?_⟩
  ·intro y0 y1 y2 y3 y4 y5 y6
   unfold ssa_formedValue.j0
   repeat' first
   | (with_reducible exact ih0 _ _ _ _ _ _ _)
   | (with_reducible exact ih1 _ _ _ _ _ _ _ _)
   | (with_reducible exact ih2 _ _ _ _ _ _)
   | (with_reducible exact ssa_operands.mono _ _)
   | (with_reducible exact LeO.refl _)
   | (with_reducible exact LeO.none _)
   | (with_reducible refine LeO.ite ?_ ?_)
   | (with_reducible refine LeO.bind ?_ (fun _=>?_))
   | exact ih0 _ _ _ _ _ _ _
   | exact ih1 _ _ _ _ _ _ _ _
   | exact ih2 _ _ _ _ _ _
   | exact ssa_operands.mono _ _
   | exact LeO.none _
   | refine LeO.ite ?_ ?_
   | refine LeO.bind ?_ (fun _=>?_)
  ·intro y0 y1 y2 y3 y4 y5 y6 y7
   unfold ssa_formedValue.j1
   repeat' first
   | (with_reducible exact ih0 _ _ _ _ _ _ _)
   | (with_reducible exact ih1 _ _ _ _ _ _ _ _)
   | (with_reducible exact ih2 _ _ _ _ _ _)
   | (with_reducible exact ssa_operands.mono _ _)
   | (with_reducible exact LeO.refl _)
   | (with_reducible exact LeO.none _)
   | (with_reducible refine LeO.ite ?_ ?_)
   | (with_reducible refine LeO.bind ?_ (fun _=>?_))
   | exact ih0 _ _ _ _ _ _ _
   | exact ih1 _ _ _ _ _ _ _ _
   | exact ih2 _ _ _ _ _ _
   | exact ssa_operands.mono _ _
   | exact LeO.none _
   | refine LeO.ite ?_ ?_
   | refine LeO.bind ?_ (fun _=>?_)
  ·intro y0 y1 y2 y3 y4 y5
   unfold ssa_formedValue.j2
   repeat' first
   | (with_reducible exact ih0 _ _ _ _ _ _ _)
   | (with_reducible exact ih1 _ _ _ _ _ _ _ _)
   | (with_reducible exact ih2 _ _ _ _ _ _)
   | (with_reducible exact ssa_operands.mono _ _)
   | (with_reducible exact LeO.refl _)
   | (with_reducible exact LeO.none _)
   | (with_reducible refine LeO.ite ?_ ?_)
   | (with_reducible refine LeO.bind ?_ (fun _=>?_))
   | exact ih0 _ _ _ _ _ _ _
   | exact ih1 _ _ _ _ _ _ _ _
   | exact ih2 _ _ _ _ _ _
   | exact ssa_operands.mono _ _
   | exact LeO.none _
   | refine LeO.ite ?_ ?_
   | refine LeO.bind ?_ (fun _=>?_)
theorem ssa_formedValue.mono:∀ a0 a1 a2 a3 a4 a5 k,LeO (ssa_formedValue.f k a0 a1 a2 a3 a4 a5) (ssa_formedValue.f (k + 1) a0 a1 a2 a3 a4 a5):=by
 intro a0 a1 a2 a3 a4 a5 k
 obtain ⟨ih0,ih1,ih2⟩:=ssa_formedValue.mono_l k
 unfold ssa_formedValue.f
 repeat' first
  | (with_reducible exact ih0 _ _ _ _ _ _ _)
  | (with_reducible exact ih1 _ _ _ _ _ _ _ _)
  | (with_reducible exact ih2 _ _ _ _ _ _)
  | (with_reducible exact ssa_operands.mono _ _)
  | (with_reducible exact LeO.refl _)
  | (with_reducible exact LeO.none _)
  | (with_reducible refine LeO.ite ?_ ?_)
  | (with_reducible refine LeO.bind ?_ (fun _=>?_))
  | exact ih0 _ _ _ _ _ _ _
  | exact ih1 _ _ _ _ _ _ _ _
  | exact ih2 _ _ _ _ _ _
  | exact ssa_operands.mono _ _
  | exact LeO.none _
  | refine LeO.ite ?_ ?_
  | refine LeO.bind ?_ (fun _=>?_)
set_option maxHeartbeats 8000000 in
set_option maxRecDepth 100000 in
theorem ssa_formedValue.calls (k:Nat) (A0_0:Option Addr) (c0_0:Nat) (l0_0:List (S38)) (a0_1:Int) (a1_0:Int) (a1_1:Int) (a1_2:Int) (A1_3:Option Addr) (c1_3:Nat) (l1_3:List Int) (r:Bool) (w:World) (hr0_0:Kd.C k38 w A0_0 l0_0.length l0_0) (hc0_0:l0_0.length ≤ c0_0) (hr1_3:Kd.C (Kd.int .i64) w A1_3 l1_3.length l1_3) (hc1_3:l1_3.length ≤ c1_3) (h:ssa_formedValue.f k l0_0 a0_1 a1_0 a1_1 a1_2 l1_3 = some r) :
 Calls Try.prog 63 #[.agg #[.slice A0_0 l0_0.length c0_0,.int .i64 a0_1],.agg #[.int .i64 a1_0,.int .i64 a1_1,.int .i64 a1_2,.slice A1_3 l1_3.length c1_3]] w fun e w'=>e = .returned (.bool r) ∧ Below w.heap.size w w':=by
 have hu24:=Try.underlying24
 have hu42:=Try.underlying42
 have HR0_0:=Aside0.mk hr0_0
 have HC0_0:=Aside0.mk hc0_0
 clear hr0_0 hc0_0
 have HR1_3:=Aside0.mk hr1_3
 have HC1_3:=Aside0.mk hc1_3
 clear hr1_3 hc1_3
 have HB:=Aside0.mk (Below.refl w.heap.size w)
 have H:(if a1_1 = 0 then (ssa_formedValue.j0 k false l0_0 a0_1 a1_0 a1_1 a1_2 l1_3) else ((ssa_isType.f a1_1).bind fun t111=>(ssa_formedValue.j0 k (!t111) l0_0 a0_1 a1_0 a1_1 a1_2 l1_3))) = some r:=h
 clear h
 have HC3:=Aside0.mk H
 clear H
 go_enter Try.func63,Try.ntmps63
 go_upto_region 1 with (first | ((with_reducible refine gate_dst (N:=2) rfl ?_);(try (refine gate_guard (by rfl) ?_;dsimp only));refine box_event ?hg (N:=2) ?hd (cs:=#[.slice A0_0 l0_0.length c0_0,.int .i64 a0_1]) (t:=24) ?hr ?_;(case hd=>rfl);(case hg=>rfl);(case hr=>first | (go_simp;done) | (go_simp;rfl));intro gb109 hg w4 hbox hb;have n0_:=Aside0.mk (below_step (by repeat (first | (with_reducible first | exact HB.out | apply below_alloc | apply pw_below_drewN | apply below_drew1) | exact HB.out)) hb);have n1_:=Aside0.mk (hbox);have n2_:=Aside0.mk ((by rw [hg];exact (below_size (by repeat (first | (with_reducible first | exact HB.out | apply below_alloc | apply pw_below_drewN | apply below_drew1) | exact HB.out))):w.heap.size ≤ gb109));have n3_:=Aside0.mk ((by rw [hg];exact (below_size (by repeat (first | (with_reducible first | exact HB.out | apply below_alloc | apply pw_below_drewN | apply below_drew1) | exact HB.out))):w.heap.size ≤ gb109));clear HB;have HB:=n0_;have BK109:=n1_;have GW109:=n2_;have GE109:=n3_;clear n0_ n1_ n2_ n3_;clear hb hbox hg) | ((with_reducible refine gate_dst (N:=3) rfl ?_);(try (refine gate_guard (by rfl) ?_;dsimp only));refine box_event ?hg (N:=3) ?hd (cs:=#[.int .i64 a1_0,.int .i64 a1_1,.int .i64 a1_2,.slice A1_3 l1_3.length c1_3]) (t:=42) ?hr ?_;(case hd=>rfl);(case hg=>rfl);(case hr=>first | (go_simp;done) | (go_simp;rfl));intro gb110 hg w5 hbox hb;have n0_:=Aside0.mk (blk_below (g:=gb109) (o:=.cells #[.slice A0_0 l0_0.length c0_0,.int .i64 a0_1] 24 (0,0)) (by (with_reducible repeat (first | refine blk_drewN ?_ _ | refine blk_drew ?_ | refine blk_alloc ?_ _));exact BK109.out) hb);have n1_:=Aside0.mk (below_step (by repeat (first | (with_reducible first | exact HB.out | apply below_alloc | apply pw_below_drewN | apply below_drew1 | refine below_set ?_ GE109.out) | exact HB.out)) hb);have n2_:=Aside0.mk (hbox);have n3_:=Aside0.mk ((by rw [hg];exact (below_size (by repeat (first | (with_reducible first | exact HB.out | apply below_alloc | apply pw_below_drewN | apply below_drew1 | refine below_set ?_ GE109.out) | exact HB.out))):w.heap.size ≤ gb110));have n4_:=Aside0.mk ((by rw [hg];exact (below_size (by repeat (first | (with_reducible first | exact HB.out | apply below_alloc | apply pw_below_drewN | apply below_drew1 | refine below_set ?_ GE109.out) | exact HB.out))):w.heap.size ≤ gb110));have n5_:=Aside0.mk ((by rw [hg];exact Nat.ne_of_lt (blk_lt (g:=gb109) (o:=.cells #[.slice A0_0 l0_0.length c0_0,.int .i64 a0_1] 24 (0,0)) (by (with_reducible repeat (first | refine blk_drewN ?_ _ | refine blk_drew ?_ | refine blk_alloc ?_ _));exact BK109.out)):gb109 ≠ gb110));have n6_:=Aside0.mk ((by rw [hg];exact Nat.ne_of_gt (blk_lt (g:=gb109) (o:=.cells #[.slice A0_0 l0_0.length c0_0,.int .i64 a0_1] 24 (0,0)) (by (with_reducible repeat (first | refine blk_drewN ?_ _ | refine blk_drew ?_ | refine blk_alloc ?_ _));exact BK109.out)):gb110 ≠ gb109));clear BK109;clear HB;have BK109:=n0_;have HB:=n1_;have BK110:=n2_;have GW110:=n3_;have GE110:=n4_;have NB109_110:=n5_;have NB110_109:=n6_;clear n0_ n1_ n2_ n3_ n4_ n5_ n6_;clear hb hbox hg))
 repeat (go_quiet (first | ((with_reducible refine gate_dst (N:=2) rfl ?_);(try (refine gate_guard (by rfl) ?_;dsimp only));refine box_event ?hg (N:=2) ?hd (cs:=#[.slice A0_0 l0_0.length c0_0,.int .i64 a0_1]) (t:=24) ?hr ?_;(case hd=>rfl);(case hg=>rfl);(case hr=>first | (go_simp;done) | (go_simp;rfl));intro gb109 hg w4 hbox hb;have n0_:=Aside0.mk (below_step (by repeat (first | (with_reducible first | exact HB.out | apply below_alloc | apply pw_below_drewN | apply below_drew1) | exact HB.out)) hb);have n1_:=Aside0.mk (hbox);have n2_:=Aside0.mk ((by rw [hg];exact (below_size (by repeat (first | (with_reducible first | exact HB.out | apply below_alloc | apply pw_below_drewN | apply below_drew1) | exact HB.out))):w.heap.size ≤ gb109));have n3_:=Aside0.mk ((by rw [hg];exact (below_size (by repeat (first | (with_reducible first | exact HB.out | apply below_alloc | apply pw_below_drewN | apply below_drew1) | exact HB.out))):w.heap.size ≤ gb109));clear HB;have HB:=n0_;have BK109:=n1_;have GW109:=n2_;have GE109:=n3_;clear n0_ n1_ n2_ n3_;clear hb hbox hg) | ((with_reducible refine gate_dst (N:=3) rfl ?_);(try (refine gate_guard (by rfl) ?_;dsimp only));refine box_event ?hg (N:=3) ?hd (cs:=#[.int .i64 a1_0,.int .i64 a1_1,.int .i64 a1_2,.slice A1_3 l1_3.length c1_3]) (t:=42) ?hr ?_;(case hd=>rfl);(case hg=>rfl);(case hr=>first | (go_simp;done) | (go_simp;rfl));intro gb110 hg w5 hbox hb;have n0_:=Aside0.mk (blk_below (g:=gb109) (o:=.cells #[.slice A0_0 l0_0.length c0_0,.int .i64 a0_1] 24 (0,0)) (by (with_reducible repeat (first | refine blk_drewN ?_ _ | refine blk_drew ?_ | refine blk_alloc ?_ _));exact BK109.out) hb);have n1_:=Aside0.mk (below_step (by repeat (first | (with_reducible first | exact HB.out | apply below_alloc | apply pw_below_drewN | apply below_drew1 | refine below_set ?_ GE109.out) | exact HB.out)) hb);have n2_:=Aside0.mk (hbox);have n3_:=Aside0.mk ((by rw [hg];exact (below_size (by repeat (first | (with_reducible first | exact HB.out | apply below_alloc | apply pw_below_drewN | apply below_drew1 | refine below_set ?_ GE109.out) | exact HB.out))):w.heap.size ≤ gb110));have n4_:=Aside0.mk ((by rw [hg];exact (below_size (by repeat (first | (with_reducible first | exact HB.out | apply below_alloc | apply pw_below_drewN | apply below_drew1 | refine below_set ?_ GE109.out) | exact HB.out))):w.heap.size ≤ gb110));have n5_:=Aside0.mk ((by rw [hg];exact Nat.ne_of_lt (blk_lt (g:=gb109) (o:=.cells #[.slice A0_0 l0_0.length c0_0,.int .i64 a0_1] 24 (0,0)) (by (with_reducible repeat (first | refine blk_drewN ?_ _ | refine blk_drew ?_ | refine blk_alloc ?_ _));exact BK109.out)):gb109 ≠ gb110));have n6_:=Aside0.mk ((by rw [hg];exact Nat.ne_of_gt (blk_lt (g:=gb109) (o:=.cells #[.slice A0_0 l0_0.length c0_0,.int .i64 a0_1] 24 (0,0)) (by (with_reducible repeat (first | refine blk_drewN ?_ _ | refine blk_drew ?_ | refine blk_alloc ?_ _));exact BK109.out)):gb110 ≠ gb109));clear BK109;clear HB;have BK109:=n0_;have HB:=n1_;have BK110:=n2_;have GW110:=n3_;have GE110:=n4_;have NB109_110:=n5_;have NB110_109:=n6_;clear n0_ n1_ n2_ n3_ n4_ n5_ n6_;clear hb hbox hg));go_upto_region 1 with (first | ((with_reducible refine gate_dst (N:=2) rfl ?_);(try (refine gate_guard (by rfl) ?_;dsimp only));refine box_event ?hg (N:=2) ?hd (cs:=#[.slice A0_0 l0_0.length c0_0,.int .i64 a0_1]) (t:=24) ?hr ?_;(case hd=>rfl);(case hg=>rfl);(case hr=>first | (go_simp;done) | (go_simp;rfl));intro gb109 hg w4 hbox hb;have n0_:=Aside0.mk (below_step (by repeat (first | (with_reducible first | exact HB.out | apply below_alloc | apply pw_below_drewN | apply below_drew1) | exact HB.out)) hb);have n1_:=Aside0.mk (hbox);have n2_:=Aside0.mk ((by rw [hg];exact (below_size (by repeat (first | (with_reducible first | exact HB.out | apply below_alloc | apply pw_below_drewN | apply below_drew1) | exact HB.out))):w.heap.size ≤ gb109));have n3_:=Aside0.mk ((by rw [hg];exact (below_size (by repeat (first | (with_reducible first | exact HB.out | apply below_alloc | apply pw_below_drewN | apply below_drew1) | exact HB.out))):w.heap.size ≤ gb109));clear HB;have HB:=n0_;have BK109:=n1_;have GW109:=n2_;have GE109:=n3_;clear n0_ n1_ n2_ n3_;clear hb hbox hg) | ((with_reducible refine gate_dst (N:=3) rfl ?_);(try (refine gate_guard (by rfl) ?_;dsimp only));refine box_event ?hg (N:=3) ?hd (cs:=#[.int .i64 a1_0,.int .i64 a1_1,.int .i64 a1_2,.slice A1_3 l1_3.length c1_3]) (t:=42) ?hr ?_;(case hd=>rfl);(case hg=>rfl);(case hr=>first | (go_simp;done) | (go_simp;rfl));intro gb110 hg w5 hbox hb;have n0_:=Aside0.mk (blk_below (g:=gb109) (o:=.cells #[.slice A0_0 l0_0.length c0_0,.int .i64 a0_1] 24 (0,0)) (by (with_reducible repeat (first | refine blk_drewN ?_ _ | refine blk_drew ?_ | refine blk_alloc ?_ _));exact BK109.out) hb);have n1_:=Aside0.mk (below_step (by repeat (first | (with_reducible first | exact HB.out | apply below_alloc | apply pw_below_drewN | apply below_drew1 | refine below_set ?_ GE109.out) | exact HB.out)) hb);have n2_:=Aside0.mk (hbox);have n3_:=Aside0.mk ((by rw [hg];exact (below_size (by repeat (first | (with_reducible first | exact HB.out | apply below_alloc | apply pw_below_drewN | apply below_drew1 | refine below_set ?_ GE109.out) | exact HB.out))):w.heap.size ≤ gb110));have n4_:=Aside0.mk ((by rw [hg];exact (below_size (by repeat (first | (with_reducible first | exact HB.out | apply below_alloc | apply pw_below_drewN | apply below_drew1 | refine below_set ?_ GE109.out) | exact HB.out))):w.heap.size ≤ gb110));have n5_:=Aside0.mk ((by rw [hg];exact Nat.ne_of_lt (blk_lt (g:=gb109) (o:=.cells #[.slice A0_0 l0_0.length c0_0,.int .i64 a0_1] 24 (0,0)) (by (with_reducible repeat (first | refine blk_drewN ?_ _ | refine blk_drew ?_ | refine blk_alloc ?_ _));exact BK109.out)):gb109 ≠ gb110));have n6_:=Aside0.mk ((by rw [hg];exact Nat.ne_of_gt (blk_lt (g:=gb109) (o:=.cells #[.slice A0_0 l0_0.length c0_0,.int .i64 a0_1] 24 (0,0)) (by (with_reducible repeat (first | refine blk_drewN ?_ _ | refine blk_drew ?_ | refine blk_alloc ?_ _));exact BK109.out)):gb110 ≠ gb109));clear BK109;clear HB;have BK109:=n0_;have HB:=n1_;have BK110:=n2_;have GW110:=n3_;have GE110:=n4_;have NB109_110:=n5_;have NB110_109:=n6_;clear n0_ n1_ n2_ n3_ n4_ n5_ n6_;clear hb hbox hg)))
 (try simp only [Act.put,List.setIfInBounds_toArray,List.set_cons_zero,List.set_cons_succ])
 go_cut [14] (fun v14 wc=>∃ (kq:Nat) (x14_2:Bool),v14 = .bool x14_2 ∧ Aside0 (ssa_formedValue.j0 kq x14_2 l0_0 a0_1 a1_0 a1_1 a1_2 l1_3 = some r) ∧ Aside0 (kq ≤ k) ∧ Aside0 (wc.heap[gb109]? = some (.cells #[(.slice A0_0 l0_0.length c0_0),.int .i64 a0_1] 24 (0,0))) ∧ Aside0 (wc.heap[gb110]? = some (.cells #[.int .i64 a1_0,.int .i64 a1_1,.int .i64 a1_2,(.slice A1_3 l1_3.length c1_3)] 42 (0,0))) ∧ Aside0 (Below w.heap.size w wc))
 case first=>
  have H:=HC3.out
  clear HC3
  by_cases c6:a1_1 = 0
  ·rw [if_pos c6] at H
   have c6b0:(a1_1 == 0) = true:=beq_iff_eq.mpr c6
   have c6b1:(a1_1 != 0) = false:=bne_eq_false_iff_eq.mpr c6
   clear c6
   (first | rw [c6b0] | (simp only [i64_w,i32_w];rw [c6b0]) | skip)
   have H':=Aside0.mk H
   clear H
   have hnb7:=NB110_109.out
   have hnc7:=NB109_110.out
   have hcz8_0:w5.cell? ⟨gb110,0,none⟩ = some (.int .i64 a1_0):=(blk_cell BK110.out 0).trans rfl
   have hcz8_1:w5.cell? ⟨gb110,1,none⟩ = some (.int .i64 a1_1):=(blk_cell BK110.out 1).trans rfl
   have hcz8_2:w5.cell? ⟨gb110,2,none⟩ = some (.int .i64 a1_2):=(blk_cell BK110.out 2).trans rfl
   have hcz8_3:w5.cell? ⟨gb110,3,none⟩ = some (.slice A1_3 l1_3.length c1_3):=(blk_cell BK110.out 3).trans rfl
   have hfz8_0:=blk_frozen BK110.out 0
   have hfz8_1:=blk_frozen BK110.out 1
   have hfz8_2:=blk_frozen BK110.out 2
   have hfz8_3:=blk_frozen BK110.out 3
   go_wp2
   repeat (go_quiet (fail);try go_wp2)
   go_meet
   case rel=>exact ⟨_,(false),(by first | rfl | (simp;done) | (simp [*];done)),H',⟨by first | omega | exact Nat.le_refl _⟩,⟨by (with_reducible repeat (first | refine blk_drewN ?_ _ | refine blk_drew ?_ | refine blk_alloc ?_ _));exact BK109.out⟩,⟨by (with_reducible repeat (first | refine blk_drewN ?_ _ | refine blk_drew ?_ | refine blk_alloc ?_ _));exact BK110.out⟩,⟨by repeat (first | (with_reducible first | exact HB.out | apply below_alloc | apply pw_below_drewN | apply below_drew1 | refine below_set ?_ GE109.out | refine below_set ?_ GE110.out) | exact HB.out)⟩⟩
  ·rw [if_neg c6] at H
   have c6b0:(a1_1 == 0) = false:=beq_eq_false_iff_ne.mpr c6
   have c6b1:(a1_1 != 0) = true:=bne_iff_ne.mpr c6
   (first | rw [c6b0] | (simp only [i64_w,i32_w];rw [c6b0]) | skip)
   replace H:=Option.bind_eq_some_iff.mp H
   obtain ⟨t111,A90,H⟩:=H
   replace H:(ssa_formedValue.j0 k (!t111) l0_0 a0_1 a1_0 a1_1 a1_2 l1_3) = some r:=H
   have A9:=Aside0.mk A90
   clear A90
   have H':=Aside0.mk H
   clear H
   have hnb10:=NB110_109.out
   have hnc10:=NB109_110.out
   have hcz11_0:w5.cell? ⟨gb110,0,none⟩ = some (.int .i64 a1_0):=(blk_cell BK110.out 0).trans rfl
   have hcz11_1:w5.cell? ⟨gb110,1,none⟩ = some (.int .i64 a1_1):=(blk_cell BK110.out 1).trans rfl
   have hcz11_2:w5.cell? ⟨gb110,2,none⟩ = some (.int .i64 a1_2):=(blk_cell BK110.out 2).trans rfl
   have hcz11_3:w5.cell? ⟨gb110,3,none⟩ = some (.slice A1_3 l1_3.length c1_3):=(blk_cell BK110.out 3).trans rfl
   have hfz11_0:=blk_frozen BK110.out 0
   have hfz11_1:=blk_frozen BK110.out 1
   have hfz11_2:=blk_frozen BK110.out 2
   have hfz11_3:=blk_frozen BK110.out 3
   go_wp2_with (first | (go_at_call 62;(with_reducible refine (ssa_isType.calls a1_1 t111 _ A9.out).mono ?_);rintro e w' ⟨rfl,⟨nd,rfl⟩⟩;(try first | exact ⟨rfl,_,World.drewN_drewN _ _ _⟩ | exact ⟨rfl,_,Eq.trans (World.drewN_drewN _ _ _) (congrArg (World.drewN _) (Nat.add_assoc _ _ _))⟩)))
   repeat (go_quiet (first | (go_at_call 62;(with_reducible refine (ssa_isType.calls a1_1 t111 _ A9.out).mono ?_);rintro e w' ⟨rfl,⟨nd,rfl⟩⟩;(try first | exact ⟨rfl,_,World.drewN_drewN _ _ _⟩ | exact ⟨rfl,_,Eq.trans (World.drewN_drewN _ _ _) (congrArg (World.drewN _) (Nat.add_assoc _ _ _))⟩)));try go_wp2_with (first | (go_at_call 62;(with_reducible refine (ssa_isType.calls a1_1 t111 _ A9.out).mono ?_);rintro e w' ⟨rfl,⟨nd,rfl⟩⟩;(try first | exact ⟨rfl,_,World.drewN_drewN _ _ _⟩ | exact ⟨rfl,_,Eq.trans (World.drewN_drewN _ _ _) (congrArg (World.drewN _) (Nat.add_assoc _ _ _))⟩))))
   go_meet
   case rel=>exact ⟨_,(!t111),(by first | rfl | (simp;done) | (simp [*];done)),H',⟨by first | omega | exact Nat.le_refl _⟩,⟨by (with_reducible repeat (first | refine blk_drewN ?_ _ | refine blk_drew ?_ | refine blk_alloc ?_ _));exact BK109.out⟩,⟨by (with_reducible repeat (first | refine blk_drewN ?_ _ | refine blk_drew ?_ | refine blk_alloc ?_ _));exact BK110.out⟩,⟨by repeat (first | (with_reducible first | exact HB.out | apply below_alloc | apply pw_below_drewN | apply below_drew1 | refine below_set ?_ GE109.out | refine below_set ?_ GE110.out) | exact HB.out)⟩⟩
 case rest=>
  clear HC3
  try clear c1
  try clear p2
  try clear c6
  try clear c6b0
  try clear c6b1
  try clear c7
  try clear c10
  try clear hcz11_0
  try clear hcz11_1
  try clear hcz11_2
  try clear hcz11_3
  try clear hcz8_0
  try clear hcz8_1
  try clear hcz8_2
  try clear hcz8_3
  try clear hfz11_0
  try clear hfz11_1
  try clear hfz11_2
  try clear hfz11_3
  try clear hfz8_0
  try clear hfz8_1
  try clear hfz8_2
  try clear hfz8_3
  obtain ⟨kq,x14_2,rfl,HA,HJ2,BK109,BK110,HB⟩:=hcut
  cases kq with
  | zero=>exact absurd HA.out (by simp [ssa_formedValue.j0])
  | succ kj2=>
   have H:=HA.out
   clear HA
   simp only [ssa_formedValue.j0] at H
   by_cases c12:x14_2 = true
   ·subst c12
    have H1:(some false) = some r:=by rw [if_pos rfl] at H;exact H
    clear H
    have H:=H1
    clear H1
    obtain rfl:=Option.some.inj H
    go_wp2
    repeat (go_quiet (fail);try go_wp2)
    go_ret
    exact ⟨by first | rfl | (simp [errW_none,errW_some] <;> rfl) | (simp [*,errW_none,errW_some] <;> rfl),by repeat (first | (with_reducible first | exact HB.out | apply below_alloc | apply pw_below_drewN | apply below_drew1 | refine below_set ?_ GE109.out | refine below_set ?_ GE110.out) | exact HB.out)⟩
   ·replace c12:=Bool.eq_false_iff.mpr c12
    subst c12
    have H1:(if a1_0 = 1 then (ssa_formedValue.j1 kj2 a1_0 (a1_0 == 1) l0_0 a0_1 a1_0 a1_1 a1_2 l1_3) else (ssa_formedValue.j1 kj2 a1_0 (a1_0 == 33) l0_0 a0_1 a1_0 a1_1 a1_2 l1_3)) = some r:=by rw [if_neg (show ¬ (false = true) by decide)] at H;exact H
    clear H
    have H:=H1
    clear H1
    have HC13:=Aside0.mk H
    clear H
    have hnb14:=NB110_109.out
    have hnc14:=NB109_110.out
    have hcz15_0:wc.cell? ⟨gb110,0,none⟩ = some (.int .i64 a1_0):=(blk_cell BK110.out 0).trans rfl
    have hcz15_1:wc.cell? ⟨gb110,1,none⟩ = some (.int .i64 a1_1):=(blk_cell BK110.out 1).trans rfl
    have hcz15_2:wc.cell? ⟨gb110,2,none⟩ = some (.int .i64 a1_2):=(blk_cell BK110.out 2).trans rfl
    have hcz15_3:wc.cell? ⟨gb110,3,none⟩ = some (.slice A1_3 l1_3.length c1_3):=(blk_cell BK110.out 3).trans rfl
    have hfz15_0:=blk_frozen BK110.out 0
    have hfz15_1:=blk_frozen BK110.out 1
    have hfz15_2:=blk_frozen BK110.out 2
    have hfz15_3:=blk_frozen BK110.out 3
    go_upto_if 17 with (fail)
    repeat (go_quiet (fail);go_upto_if 17 with (fail))
    go_cut [17] (fun v17 wc=>∃ (kq:Nat) (x17_12:Bool),v17 = .bool x17_12 ∧ Aside0 (ssa_formedValue.j1 kq a1_0 x17_12 l0_0 a0_1 a1_0 a1_1 a1_2 l1_3 = some r) ∧ Aside0 (kq ≤ kj2) ∧ Aside0 (wc.heap[gb109]? = some (.cells #[(.slice A0_0 l0_0.length c0_0),.int .i64 a0_1] 24 (0,0))) ∧ Aside0 (wc.heap[gb110]? = some (.cells #[.int .i64 a1_0,.int .i64 a1_1,.int .i64 a1_2,(.slice A1_3 l1_3.length c1_3)] 42 (0,0))) ∧ Aside0 (Below w.heap.size w wc))
    case first=>
     have H:=HC13.out
     clear HC13
     by_cases c16:a1_0 = 1
     ·rw [if_pos c16] at H
      have c16b0:(a1_0 == 1) = true:=beq_iff_eq.mpr c16
      have c16b1:(a1_0 != 1) = false:=bne_eq_false_iff_eq.mpr c16
      clear c16
      (first | rw [c16b0] | (simp only [i64_w,i32_w];rw [c16b0]) | skip)
      have H':=Aside0.mk H
      clear H
      go_wp2
      repeat (go_quiet (fail);try go_wp2)
      go_meet
      case rel=>exact ⟨_,((a1_0 == 1)),(by first | rfl | (simp;done) | (simp [*];done)),H',⟨by have:=HJ2.out;first | omega | exact Nat.le_refl _⟩,⟨by (with_reducible repeat (first | refine blk_drewN ?_ _ | refine blk_drew ?_ | refine blk_alloc ?_ _));exact BK109.out⟩,⟨by (with_reducible repeat (first | refine blk_drewN ?_ _ | refine blk_drew ?_ | refine blk_alloc ?_ _));exact BK110.out⟩,⟨by repeat (first | (with_reducible first | exact HB.out | apply below_alloc | apply pw_below_drewN | apply below_drew1 | refine below_set ?_ GE109.out | refine below_set ?_ GE110.out) | exact HB.out)⟩⟩
     ·rw [if_neg c16] at H
      have c16b0:(a1_0 == 1) = false:=beq_eq_false_iff_ne.mpr c16
      have c16b1:(a1_0 != 1) = true:=bne_iff_ne.mpr c16
      (first | rw [c16b0] | (simp only [i64_w,i32_w];rw [c16b0]) | skip)
      have H':=Aside0.mk H
      clear H
      go_wp2
      repeat (go_quiet (fail);try go_wp2)
      go_meet
      case rel=>exact ⟨_,((a1_0 == 33)),(by first | rfl | (simp;done) | (simp [*];done)),H',⟨by have:=HJ2.out;first | omega | exact Nat.le_refl _⟩,⟨by (with_reducible repeat (first | refine blk_drewN ?_ _ | refine blk_drew ?_ | refine blk_alloc ?_ _));exact BK109.out⟩,⟨by (with_reducible repeat (first | refine blk_drewN ?_ _ | refine blk_drew ?_ | refine blk_alloc ?_ _));exact BK110.out⟩,⟨by repeat (first | (with_reducible first | exact HB.out | apply below_alloc | apply pw_below_drewN | apply below_drew1 | refine below_set ?_ GE109.out | refine below_set ?_ GE110.out) | exact HB.out)⟩⟩
    case rest=>
     clear HC13
     try clear c1
     try clear p2
     try clear c6
     try clear c6b0
     try clear c6b1
     try clear c7
     try clear c10
     try clear c12
     try clear c14
     try clear c16
     try clear c16b0
     try clear c16b1
     try clear hcz11_0
     try clear hcz11_1
     try clear hcz11_2
     try clear hcz11_3
     try clear hcz15_0
     try clear hcz15_1
     try clear hcz15_2
     try clear hcz15_3
     try clear hcz8_0
     try clear hcz8_1
     try clear hcz8_2
     try clear hcz8_3
     try clear hfz11_0
     try clear hfz11_1
     try clear hfz11_2
     try clear hfz11_3
     try clear hfz15_0
     try clear hfz15_1
     try clear hfz15_2
     try clear hfz15_3
     try clear hfz8_0
     try clear hfz8_1
     try clear hfz8_2
     try clear hfz8_3
     try clear p2
     obtain ⟨kq,x17_12,rfl,HA,HJ12,BK109,BK110,HB⟩:=hcut
     cases kq with
     | zero=>exact absurd HA.out (by simp [ssa_formedValue.j1])
     | succ kj12=>
      have H:=HA.out
      clear HA
      simp only [ssa_formedValue.j1] at H
      by_cases c17:x17_12 = true
      ·subst c17
       have H1:(some ((l1_3.length:Int) == 0)) = some r:=by rw [if_pos rfl] at H;exact H
       clear H
       have H:=H1
       clear H1
       obtain rfl:=Option.some.inj H
       have hnb18:=NB110_109.out
       have hnc18:=NB109_110.out
       have hcz19_0:wc.cell? ⟨gb110,0,none⟩ = some (.int .i64 a1_0):=(blk_cell BK110.out 0).trans rfl
       have hcz19_1:wc.cell? ⟨gb110,1,none⟩ = some (.int .i64 a1_1):=(blk_cell BK110.out 1).trans rfl
       have hcz19_2:wc.cell? ⟨gb110,2,none⟩ = some (.int .i64 a1_2):=(blk_cell BK110.out 2).trans rfl
       have hcz19_3:wc.cell? ⟨gb110,3,none⟩ = some (.slice A1_3 l1_3.length c1_3):=(blk_cell BK110.out 3).trans rfl
       have hfz19_0:=blk_frozen BK110.out 0
       have hfz19_1:=blk_frozen BK110.out 1
       have hfz19_2:=blk_frozen BK110.out 2
       have hfz19_3:=blk_frozen BK110.out 3
       go_wp2
       repeat (go_quiet (fail);try go_wp2)
       go_ret
       exact ⟨by first | rfl | (simp [errW_none,errW_some] <;> rfl) | (simp [*,errW_none,errW_some] <;> rfl),by repeat (first | (with_reducible first | exact HB.out | apply below_alloc | apply pw_below_drewN | apply below_drew1 | refine below_set ?_ GE109.out | refine below_set ?_ GE110.out) | exact HB.out)⟩
      ·replace c17:=Bool.eq_false_iff.mpr c17
       subst c17
       have H1:(if a1_0 = 32 then (some (a1_2 == 0)) else (if a1_0 = 25 then (if a1_2 ≥ 0 then (if a1_2 < (l0_0.length:Int) then (if 0 ≤ a1_2 then (some ((l1_3.length:Int) == (((rd_T38 l0_0 a1_2).f1).length:Int))) else (none)) else (some false)) else (some false)) else (if a1_0 = 28 then (ssa_formedValue.j2 kj12 a1_0 (a1_0 == 28) a1_0 a1_1 a1_2 l1_3) else (ssa_formedValue.j2 kj12 a1_0 (a1_0 == 29) a1_0 a1_1 a1_2 l1_3)))) = some r:=by rw [if_neg (show ¬ (false = true) by decide)] at H;exact H
       clear H
       have H:=H1
       clear H1
       by_cases c20:a1_0 = 32
       ·rw [if_pos c20] at H
        have c20b0:(a1_0 == 32) = true:=beq_iff_eq.mpr c20
        have c20b1:(a1_0 != 32) = false:=bne_eq_false_iff_eq.mpr c20
        clear c20
        obtain rfl:=Option.some.inj H
        have hnb21:=NB110_109.out
        have hnc21:=NB109_110.out
        have hcz22_0:wc.cell? ⟨gb110,0,none⟩ = some (.int .i64 a1_0):=(blk_cell BK110.out 0).trans rfl
        have hcz22_1:wc.cell? ⟨gb110,1,none⟩ = some (.int .i64 a1_1):=(blk_cell BK110.out 1).trans rfl
        have hcz22_2:wc.cell? ⟨gb110,2,none⟩ = some (.int .i64 a1_2):=(blk_cell BK110.out 2).trans rfl
        have hcz22_3:wc.cell? ⟨gb110,3,none⟩ = some (.slice A1_3 l1_3.length c1_3):=(blk_cell BK110.out 3).trans rfl
        have hfz22_0:=blk_frozen BK110.out 0
        have hfz22_1:=blk_frozen BK110.out 1
        have hfz22_2:=blk_frozen BK110.out 2
        have hfz22_3:=blk_frozen BK110.out 3
        go_wp2
        repeat (go_quiet (fail);try go_wp2)
        go_ret
        exact ⟨by first | rfl | (simp [errW_none,errW_some] <;> rfl) | (simp [*,errW_none,errW_some] <;> rfl),by repeat (first | (with_reducible first | exact HB.out | apply below_alloc | apply pw_below_drewN | apply below_drew1 | refine below_set ?_ GE109.out | refine below_set ?_ GE110.out) | exact HB.out)⟩
       ·rw [if_neg c20] at H
        have c20b0:(a1_0 == 32) = false:=beq_eq_false_iff_ne.mpr c20
        have c20b1:(a1_0 != 32) = true:=bne_iff_ne.mpr c20
        by_cases c23:a1_0 = 25
        ·rw [if_pos c23] at H
         have c23b0:(a1_0 == 25) = true:=beq_iff_eq.mpr c23
         have c23b1:(a1_0 != 25) = false:=bne_eq_false_iff_eq.mpr c23
         clear c23
         by_cases c24:a1_2 ≥ 0
         ·rw [if_pos c24] at H
          have c24b0:decide (0 ≤ a1_2) = true:=decide_eq_true c24
          clear c24
          by_cases c25:a1_2 < (l0_0.length:Int)
          ·rw [if_pos c25] at H
           have c25b0:decide (a1_2 < (l0_0.length:Int)) = true:=decide_eq_true c25
           clear c25
           by_cases c26:0 ≤ a1_2
           ·rw [if_pos c26] at H
            have c26b0:decide (0 ≤ a1_2) = true:=decide_eq_true c26
            clear c26
            obtain rfl:=Option.some.inj H
            have hnb27:=NB110_109.out
            have hnc27:=NB109_110.out
            have hcz28_0:wc.cell? ⟨gb110,0,none⟩ = some (.int .i64 a1_0):=(blk_cell BK110.out 0).trans rfl
            have hcz28_1:wc.cell? ⟨gb110,1,none⟩ = some (.int .i64 a1_1):=(blk_cell BK110.out 1).trans rfl
            have hcz28_2:wc.cell? ⟨gb110,2,none⟩ = some (.int .i64 a1_2):=(blk_cell BK110.out 2).trans rfl
            have hcz28_3:wc.cell? ⟨gb110,3,none⟩ = some (.slice A1_3 l1_3.length c1_3):=(blk_cell BK110.out 3).trans rfl
            have hfz28_0:=blk_frozen BK110.out 0
            have hfz28_1:=blk_frozen BK110.out 1
            have hfz28_2:=blk_frozen BK110.out 2
            have hfz28_3:=blk_frozen BK110.out 3
            have hcz29_0:wc.cell? ⟨gb109,0,none⟩ = some (.slice A0_0 l0_0.length c0_0):=(blk_cell BK109.out 0).trans rfl
            have hcz29_1:wc.cell? ⟨gb109,1,none⟩ = some (.int .i64 a0_1):=(blk_cell BK109.out 1).trans rfl
            have hfz29_0:=blk_frozen BK109.out 0
            have hfz29_1:=blk_frozen BK109.out 1
            have p112:0 ≤ (a1_2:Int):=of_decide_eq_true (by first | (with_reducible assumption) | assumption)
            have q112:a1_2 < (l0_0.length:Int):=of_decide_eq_true (by first | (with_reducible assumption) | assumption)
            obtain ⟨ad112,A112_1,c112_1,A112_3,c112_3,A112_4,c112_4,e112,hx112_0,hx112_1,hx112_2,hx112_3,hx112_4,hl112_1,hi112_1,hl112_3,hi112_3,hl112_4,hi112_4⟩:=at_T38 HR0_0.out a1_2 p112 q112
            cases e112
            replace hx112_0:=cellA HB hx112_0
            replace hx112_1:=cellA HB hx112_1
            replace hx112_2:=cellA HB hx112_2
            replace hx112_3:=cellA HB hx112_3
            replace hx112_4:=cellA HB hx112_4
            have HR112_1:=Aside0.mk hi112_1
            have HC112_1:=Aside0.mk hl112_1
            clear hi112_1 hl112_1
            have HR112_3:=Aside0.mk hi112_3
            have HC112_3:=Aside0.mk hl112_3
            clear hi112_3 hl112_3
            have HR112_4:=Aside0.mk hi112_4
            have HC112_4:=Aside0.mk hl112_4
            clear hi112_4 hl112_4
            replace p112:=eq_true p112
            replace q112:=eq_true q112
            go_wp2
            repeat (go_quiet (fail);try go_wp2)
            go_ret
            exact ⟨by first | rfl | (simp [errW_none,errW_some] <;> rfl) | (simp [*,errW_none,errW_some] <;> rfl),by repeat (first | (with_reducible first | exact HB.out | apply below_alloc | apply pw_below_drewN | apply below_drew1 | refine below_set ?_ GE109.out | refine below_set ?_ GE110.out) | exact HB.out)⟩
           ·rw [if_neg c26] at H
            exact absurd H (by simp)
          ·rw [if_neg c25] at H
           have c25b0:decide (a1_2 < (l0_0.length:Int)) = false:=decide_eq_false c25
           clear c25
           obtain rfl:=Option.some.inj H
           have hnb30:=NB110_109.out
           have hnc30:=NB109_110.out
           have hcz31_0:wc.cell? ⟨gb110,0,none⟩ = some (.int .i64 a1_0):=(blk_cell BK110.out 0).trans rfl
           have hcz31_1:wc.cell? ⟨gb110,1,none⟩ = some (.int .i64 a1_1):=(blk_cell BK110.out 1).trans rfl
           have hcz31_2:wc.cell? ⟨gb110,2,none⟩ = some (.int .i64 a1_2):=(blk_cell BK110.out 2).trans rfl
           have hcz31_3:wc.cell? ⟨gb110,3,none⟩ = some (.slice A1_3 l1_3.length c1_3):=(blk_cell BK110.out 3).trans rfl
           have hfz31_0:=blk_frozen BK110.out 0
           have hfz31_1:=blk_frozen BK110.out 1
           have hfz31_2:=blk_frozen BK110.out 2
           have hfz31_3:=blk_frozen BK110.out 3
           have hcz32_0:wc.cell? ⟨gb109,0,none⟩ = some (.slice A0_0 l0_0.length c0_0):=(blk_cell BK109.out 0).trans rfl
           have hcz32_1:wc.cell? ⟨gb109,1,none⟩ = some (.int .i64 a0_1):=(blk_cell BK109.out 1).trans rfl
           have hfz32_0:=blk_frozen BK109.out 0
           have hfz32_1:=blk_frozen BK109.out 1
           go_wp2
           repeat (go_quiet (fail);try go_wp2)
           go_ret
           exact ⟨by first | rfl | (simp [errW_none,errW_some] <;> rfl) | (simp [*,errW_none,errW_some] <;> rfl),by repeat (first | (with_reducible first | exact HB.out | apply below_alloc | apply pw_below_drewN | apply below_drew1 | refine below_set ?_ GE109.out | refine below_set ?_ GE110.out) | exact HB.out)⟩
         ·rw [if_neg c24] at H
          have c24b0:decide (0 ≤ a1_2) = false:=decide_eq_false c24
          clear c24
          obtain rfl:=Option.some.inj H
          have hnb33:=NB110_109.out
          have hnc33:=NB109_110.out
          have hcz34_0:wc.cell? ⟨gb110,0,none⟩ = some (.int .i64 a1_0):=(blk_cell BK110.out 0).trans rfl
          have hcz34_1:wc.cell? ⟨gb110,1,none⟩ = some (.int .i64 a1_1):=(blk_cell BK110.out 1).trans rfl
          have hcz34_2:wc.cell? ⟨gb110,2,none⟩ = some (.int .i64 a1_2):=(blk_cell BK110.out 2).trans rfl
          have hcz34_3:wc.cell? ⟨gb110,3,none⟩ = some (.slice A1_3 l1_3.length c1_3):=(blk_cell BK110.out 3).trans rfl
          have hfz34_0:=blk_frozen BK110.out 0
          have hfz34_1:=blk_frozen BK110.out 1
          have hfz34_2:=blk_frozen BK110.out 2
          have hfz34_3:=blk_frozen BK110.out 3
          go_wp2
          repeat (go_quiet (fail);try go_wp2)
          go_ret
          exact ⟨by first | rfl | (simp [errW_none,errW_some] <;> rfl) | (simp [*,errW_none,errW_some] <;> rfl),by repeat (first | (with_reducible first | exact HB.out | apply below_alloc | apply pw_below_drewN | apply below_drew1 | refine below_set ?_ GE109.out | refine below_set ?_ GE110.out) | exact HB.out)⟩
        ·rw [if_neg c23] at H
         have c23b0:(a1_0 == 25) = false:=beq_eq_false_iff_ne.mpr c23
         have c23b1:(a1_0 != 25) = true:=bne_iff_ne.mpr c23
         have HC35:=Aside0.mk H
         clear H
         go_upto_if 56 with (fail)
         repeat (go_quiet (fail);go_upto_if 56 with (fail))
         go_cut [56] (fun v56 wc=>∃ (kq:Nat) (x56_34:Bool),v56 = .bool x56_34 ∧ Aside0 (ssa_formedValue.j2 kq a1_0 x56_34 a1_0 a1_1 a1_2 l1_3 = some r) ∧ Aside0 (kq ≤ kj12) ∧ Aside0 (wc.heap[gb109]? = some (.cells #[(.slice A0_0 l0_0.length c0_0),.int .i64 a0_1] 24 (0,0))) ∧ Aside0 (wc.heap[gb110]? = some (.cells #[.int .i64 a1_0,.int .i64 a1_1,.int .i64 a1_2,(.slice A1_3 l1_3.length c1_3)] 42 (0,0))) ∧ Aside0 (Below w.heap.size w wc))
         case first=>
          have H:=HC35.out
          clear HC35
          by_cases c36:a1_0 = 28
          ·rw [if_pos c36] at H
           have c36b0:(a1_0 == 28) = true:=beq_iff_eq.mpr c36
           have c36b1:(a1_0 != 28) = false:=bne_eq_false_iff_eq.mpr c36
           clear c36
           (first | rw [c36b0] | (simp only [i64_w,i32_w];rw [c36b0]) | skip)
           have H':=Aside0.mk H
           clear H
           go_wp2
           repeat (go_quiet (fail);try go_wp2)
           go_meet
           case rel=>exact ⟨_,((a1_0 == 28)),(by first | rfl | (simp;done) | (simp [*];done)),H',⟨by have:=HJ2.out;have:=HJ12.out;first | omega | exact Nat.le_refl _⟩,⟨by (with_reducible repeat (first | refine blk_drewN ?_ _ | refine blk_drew ?_ | refine blk_alloc ?_ _));exact BK109.out⟩,⟨by (with_reducible repeat (first | refine blk_drewN ?_ _ | refine blk_drew ?_ | refine blk_alloc ?_ _));exact BK110.out⟩,⟨by repeat (first | (with_reducible first | exact HB.out | apply below_alloc | apply pw_below_drewN | apply below_drew1 | refine below_set ?_ GE109.out | refine below_set ?_ GE110.out) | exact HB.out)⟩⟩
          ·rw [if_neg c36] at H
           have c36b0:(a1_0 == 28) = false:=beq_eq_false_iff_ne.mpr c36
           have c36b1:(a1_0 != 28) = true:=bne_iff_ne.mpr c36
           (first | rw [c36b0] | (simp only [i64_w,i32_w];rw [c36b0]) | skip)
           have H':=Aside0.mk H
           clear H
           go_wp2
           repeat (go_quiet (fail);try go_wp2)
           go_meet
           case rel=>exact ⟨_,((a1_0 == 29)),(by first | rfl | (simp;done) | (simp [*];done)),H',⟨by have:=HJ2.out;have:=HJ12.out;first | omega | exact Nat.le_refl _⟩,⟨by (with_reducible repeat (first | refine blk_drewN ?_ _ | refine blk_drew ?_ | refine blk_alloc ?_ _));exact BK109.out⟩,⟨by (with_reducible repeat (first | refine blk_drewN ?_ _ | refine blk_drew ?_ | refine blk_alloc ?_ _));exact BK110.out⟩,⟨by repeat (first | (with_reducible first | exact HB.out | apply below_alloc | apply pw_below_drewN | apply below_drew1 | refine below_set ?_ GE109.out | refine below_set ?_ GE110.out) | exact HB.out)⟩⟩
         case rest=>
          clear HC35
          try clear c1
          try clear p1
          try clear q1
          try clear hx1
          try clear c2
          try clear p2
          try clear c3
          try clear c6
          try clear c6b0
          try clear c6b1
          try clear c7
          try clear c10
          try clear c11
          try clear p11
          try clear q11
          try clear hx11
          try clear c12
          try clear c14
          try clear c16
          try clear c16b0
          try clear c16b1
          try clear c17
          try clear c18
          try clear c20
          try clear c20b0
          try clear c20b1
          try clear c21
          try clear c23
          try clear c23b0
          try clear c23b1
          try clear c24
          try clear c24b0
          try clear c25
          try clear c25b0
          try clear c26
          try clear c26b0
          try clear c27
          try clear c30
          try clear c33
          try clear c36
          try clear c36b0
          try clear c36b1
          try clear hcz11_0
          try clear hcz11_1
          try clear hcz11_2
          try clear hcz11_3
          try clear hcz15_0
          try clear hcz15_1
          try clear hcz15_2
          try clear hcz15_3
          try clear hcz19_0
          try clear hcz19_1
          try clear hcz19_2
          try clear hcz19_3
          try clear hcz22_0
          try clear hcz22_1
          try clear hcz22_2
          try clear hcz22_3
          try clear hcz28_0
          try clear hcz28_1
          try clear hcz28_2
          try clear hcz28_3
          try clear hcz29_0
          try clear hcz29_1
          try clear hcz31_0
          try clear hcz31_1
          try clear hcz31_2
          try clear hcz31_3
          try clear hcz32_0
          try clear hcz32_1
          try clear hcz34_0
          try clear hcz34_1
          try clear hcz34_2
          try clear hcz34_3
          try clear hcz8_0
          try clear hcz8_1
          try clear hcz8_2
          try clear hcz8_3
          try clear hfz11_0
          try clear hfz11_1
          try clear hfz11_2
          try clear hfz11_3
          try clear hfz15_0
          try clear hfz15_1
          try clear hfz15_2
          try clear hfz15_3
          try clear hfz19_0
          try clear hfz19_1
          try clear hfz19_2
          try clear hfz19_3
          try clear hfz22_0
          try clear hfz22_1
          try clear hfz22_2
          try clear hfz22_3
          try clear hfz28_0
          try clear hfz28_1
          try clear hfz28_2
          try clear hfz28_3
          try clear hfz29_0
          try clear hfz29_1
          try clear hfz31_0
          try clear hfz31_1
          try clear hfz31_2
          try clear hfz31_3
          try clear hfz32_0
          try clear hfz32_1
          try clear hfz34_0
          try clear hfz34_1
          try clear hfz34_2
          try clear hfz34_3
          try clear hfz8_0
          try clear hfz8_1
          try clear hfz8_2
          try clear hfz8_3
          try clear hx112_0
          try clear hx112_1
          try clear hx112_2
          try clear hx112_3
          try clear hx112_4
          try clear p112
          try clear p2
          try clear q112
          obtain ⟨kq,x56_34,rfl,HA,HJ34,BK109,BK110,HB⟩:=hcut
          cases kq with
          | zero=>exact absurd HA.out (by simp [ssa_formedValue.j2])
          | succ kj34=>
           have H:=HA.out
           clear HA
           simp only [ssa_formedValue.j2] at H
           by_cases c37:x56_34 = true
           ·subst c37
            have H1:(if (l1_3.length:Int) = 1 then (if a1_2 ≥ 1 then (some (decide (a1_2 ≤ 5))) else (some false)) else (some false)) = some r:=by rw [if_pos rfl] at H;exact H
            clear H
            have H:=H1
            clear H1
            by_cases c38:(l1_3.length:Int) = 1
            ·rw [if_pos c38] at H
             have c38b0:((l1_3.length:Int) == 1) = true:=beq_iff_eq.mpr c38
             have c38b1:((l1_3.length:Int) != 1) = false:=bne_eq_false_iff_eq.mpr c38
             clear c38
             by_cases c39:a1_2 ≥ 1
             ·rw [if_pos c39] at H
              have c39b0:decide (1 ≤ a1_2) = true:=decide_eq_true c39
              clear c39
              obtain rfl:=Option.some.inj H
              have hnb40:=NB110_109.out
              have hnc40:=NB109_110.out
              have hcz41_0:wc.cell? ⟨gb110,0,none⟩ = some (.int .i64 a1_0):=(blk_cell BK110.out 0).trans rfl
              have hcz41_1:wc.cell? ⟨gb110,1,none⟩ = some (.int .i64 a1_1):=(blk_cell BK110.out 1).trans rfl
              have hcz41_2:wc.cell? ⟨gb110,2,none⟩ = some (.int .i64 a1_2):=(blk_cell BK110.out 2).trans rfl
              have hcz41_3:wc.cell? ⟨gb110,3,none⟩ = some (.slice A1_3 l1_3.length c1_3):=(blk_cell BK110.out 3).trans rfl
              have hfz41_0:=blk_frozen BK110.out 0
              have hfz41_1:=blk_frozen BK110.out 1
              have hfz41_2:=blk_frozen BK110.out 2
              have hfz41_3:=blk_frozen BK110.out 3
              go_wp2
              repeat (go_quiet (fail);try go_wp2)
              go_ret
              exact ⟨by first | rfl | (simp [errW_none,errW_some] <;> rfl) | (simp [*,errW_none,errW_some] <;> rfl),by repeat (first | (with_reducible first | exact HB.out | apply below_alloc | apply pw_below_drewN | apply below_drew1 | refine below_set ?_ GE109.out | refine below_set ?_ GE110.out) | exact HB.out)⟩
             ·rw [if_neg c39] at H
              have c39b0:decide (1 ≤ a1_2) = false:=decide_eq_false c39
              clear c39
              obtain rfl:=Option.some.inj H
              have hnb42:=NB110_109.out
              have hnc42:=NB109_110.out
              have hcz43_0:wc.cell? ⟨gb110,0,none⟩ = some (.int .i64 a1_0):=(blk_cell BK110.out 0).trans rfl
              have hcz43_1:wc.cell? ⟨gb110,1,none⟩ = some (.int .i64 a1_1):=(blk_cell BK110.out 1).trans rfl
              have hcz43_2:wc.cell? ⟨gb110,2,none⟩ = some (.int .i64 a1_2):=(blk_cell BK110.out 2).trans rfl
              have hcz43_3:wc.cell? ⟨gb110,3,none⟩ = some (.slice A1_3 l1_3.length c1_3):=(blk_cell BK110.out 3).trans rfl
              have hfz43_0:=blk_frozen BK110.out 0
              have hfz43_1:=blk_frozen BK110.out 1
              have hfz43_2:=blk_frozen BK110.out 2
              have hfz43_3:=blk_frozen BK110.out 3
              go_wp2
              repeat (go_quiet (fail);try go_wp2)
              go_ret
              exact ⟨by first | rfl | (simp [errW_none,errW_some] <;> rfl) | (simp [*,errW_none,errW_some] <;> rfl),by repeat (first | (with_reducible first | exact HB.out | apply below_alloc | apply pw_below_drewN | apply below_drew1 | refine below_set ?_ GE109.out | refine below_set ?_ GE110.out) | exact HB.out)⟩
            ·rw [if_neg c38] at H
             have c38b0:((l1_3.length:Int) == 1) = false:=beq_eq_false_iff_ne.mpr c38
             have c38b1:((l1_3.length:Int) != 1) = true:=bne_iff_ne.mpr c38
             obtain rfl:=Option.some.inj H
             have hnb44:=NB110_109.out
             have hnc44:=NB109_110.out
             have hcz45_0:wc.cell? ⟨gb110,0,none⟩ = some (.int .i64 a1_0):=(blk_cell BK110.out 0).trans rfl
             have hcz45_1:wc.cell? ⟨gb110,1,none⟩ = some (.int .i64 a1_1):=(blk_cell BK110.out 1).trans rfl
             have hcz45_2:wc.cell? ⟨gb110,2,none⟩ = some (.int .i64 a1_2):=(blk_cell BK110.out 2).trans rfl
             have hcz45_3:wc.cell? ⟨gb110,3,none⟩ = some (.slice A1_3 l1_3.length c1_3):=(blk_cell BK110.out 3).trans rfl
             have hfz45_0:=blk_frozen BK110.out 0
             have hfz45_1:=blk_frozen BK110.out 1
             have hfz45_2:=blk_frozen BK110.out 2
             have hfz45_3:=blk_frozen BK110.out 3
             go_wp2
             repeat (go_quiet (fail);try go_wp2)
             go_ret
             exact ⟨by first | rfl | (simp [errW_none,errW_some] <;> rfl) | (simp [*,errW_none,errW_some] <;> rfl),by repeat (first | (with_reducible first | exact HB.out | apply below_alloc | apply pw_below_drewN | apply below_drew1 | refine below_set ?_ GE109.out | refine below_set ?_ GE110.out) | exact HB.out)⟩
           ·replace c37:=Bool.eq_false_iff.mpr c37
            subst c37
            have H1:(if a1_0 = 30 then (if (l1_3.length:Int) = 2 then (if a1_2 ≥ 1 then (some (decide (a1_2 ≤ 5))) else (some false)) else (some false)) else ((ssa_operands.f kj34 a1_0).bind fun t113=>(if t113 ≥ 0 then (if (l1_3.length:Int) = t113 then (some (a1_2 == 0)) else (some false)) else (some false)))) = some r:=by rw [if_neg (show ¬ (false = true) by decide)] at H;exact H
            clear H
            have H:=H1
            clear H1
            by_cases c46:a1_0 = 30
            ·rw [if_pos c46] at H
             have c46b0:(a1_0 == 30) = true:=beq_iff_eq.mpr c46
             have c46b1:(a1_0 != 30) = false:=bne_eq_false_iff_eq.mpr c46
             clear c46
             by_cases c47:(l1_3.length:Int) = 2
             ·rw [if_pos c47] at H
              have c47b0:((l1_3.length:Int) == 2) = true:=beq_iff_eq.mpr c47
              have c47b1:((l1_3.length:Int) != 2) = false:=bne_eq_false_iff_eq.mpr c47
              clear c47
              by_cases c48:a1_2 ≥ 1
              ·rw [if_pos c48] at H
               have c48b0:decide (1 ≤ a1_2) = true:=decide_eq_true c48
               clear c48
               obtain rfl:=Option.some.inj H
               have hnb49:=NB110_109.out
               have hnc49:=NB109_110.out
               have hcz50_0:wc.cell? ⟨gb110,0,none⟩ = some (.int .i64 a1_0):=(blk_cell BK110.out 0).trans rfl
               have hcz50_1:wc.cell? ⟨gb110,1,none⟩ = some (.int .i64 a1_1):=(blk_cell BK110.out 1).trans rfl
               have hcz50_2:wc.cell? ⟨gb110,2,none⟩ = some (.int .i64 a1_2):=(blk_cell BK110.out 2).trans rfl
               have hcz50_3:wc.cell? ⟨gb110,3,none⟩ = some (.slice A1_3 l1_3.length c1_3):=(blk_cell BK110.out 3).trans rfl
               have hfz50_0:=blk_frozen BK110.out 0
               have hfz50_1:=blk_frozen BK110.out 1
               have hfz50_2:=blk_frozen BK110.out 2
               have hfz50_3:=blk_frozen BK110.out 3
               go_wp2
               repeat (go_quiet (fail);try go_wp2)
               go_ret
               exact ⟨by first | rfl | (simp [errW_none,errW_some] <;> rfl) | (simp [*,errW_none,errW_some] <;> rfl),by repeat (first | (with_reducible first | exact HB.out | apply below_alloc | apply pw_below_drewN | apply below_drew1 | refine below_set ?_ GE109.out | refine below_set ?_ GE110.out) | exact HB.out)⟩
              ·rw [if_neg c48] at H
               have c48b0:decide (1 ≤ a1_2) = false:=decide_eq_false c48
               clear c48
               obtain rfl:=Option.some.inj H
               have hnb51:=NB110_109.out
               have hnc51:=NB109_110.out
               have hcz52_0:wc.cell? ⟨gb110,0,none⟩ = some (.int .i64 a1_0):=(blk_cell BK110.out 0).trans rfl
               have hcz52_1:wc.cell? ⟨gb110,1,none⟩ = some (.int .i64 a1_1):=(blk_cell BK110.out 1).trans rfl
               have hcz52_2:wc.cell? ⟨gb110,2,none⟩ = some (.int .i64 a1_2):=(blk_cell BK110.out 2).trans rfl
               have hcz52_3:wc.cell? ⟨gb110,3,none⟩ = some (.slice A1_3 l1_3.length c1_3):=(blk_cell BK110.out 3).trans rfl
               have hfz52_0:=blk_frozen BK110.out 0
               have hfz52_1:=blk_frozen BK110.out 1
               have hfz52_2:=blk_frozen BK110.out 2
               have hfz52_3:=blk_frozen BK110.out 3
               go_wp2
               repeat (go_quiet (fail);try go_wp2)
               go_ret
               exact ⟨by first | rfl | (simp [errW_none,errW_some] <;> rfl) | (simp [*,errW_none,errW_some] <;> rfl),by repeat (first | (with_reducible first | exact HB.out | apply below_alloc | apply pw_below_drewN | apply below_drew1 | refine below_set ?_ GE109.out | refine below_set ?_ GE110.out) | exact HB.out)⟩
             ·rw [if_neg c47] at H
              have c47b0:((l1_3.length:Int) == 2) = false:=beq_eq_false_iff_ne.mpr c47
              have c47b1:((l1_3.length:Int) != 2) = true:=bne_iff_ne.mpr c47
              obtain rfl:=Option.some.inj H
              have hnb53:=NB110_109.out
              have hnc53:=NB109_110.out
              have hcz54_0:wc.cell? ⟨gb110,0,none⟩ = some (.int .i64 a1_0):=(blk_cell BK110.out 0).trans rfl
              have hcz54_1:wc.cell? ⟨gb110,1,none⟩ = some (.int .i64 a1_1):=(blk_cell BK110.out 1).trans rfl
              have hcz54_2:wc.cell? ⟨gb110,2,none⟩ = some (.int .i64 a1_2):=(blk_cell BK110.out 2).trans rfl
              have hcz54_3:wc.cell? ⟨gb110,3,none⟩ = some (.slice A1_3 l1_3.length c1_3):=(blk_cell BK110.out 3).trans rfl
              have hfz54_0:=blk_frozen BK110.out 0
              have hfz54_1:=blk_frozen BK110.out 1
              have hfz54_2:=blk_frozen BK110.out 2
              have hfz54_3:=blk_frozen BK110.out 3
              go_wp2
              repeat (go_quiet (fail);try go_wp2)
              go_ret
              exact ⟨by first | rfl | (simp [errW_none,errW_some] <;> rfl) | (simp [*,errW_none,errW_some] <;> rfl),by repeat (first | (with_reducible first | exact HB.out | apply below_alloc | apply pw_below_drewN | apply below_drew1 | refine below_set ?_ GE109.out | refine below_set ?_ GE110.out) | exact HB.out)⟩
            ·rw [if_neg c46] at H
             have c46b0:(a1_0 == 30) = false:=beq_eq_false_iff_ne.mpr c46
             have c46b1:(a1_0 != 30) = true:=bne_iff_ne.mpr c46
             replace H:=Option.bind_eq_some_iff.mp H
             obtain ⟨t113,A550,H⟩:=H
             replace H:(if t113 ≥ 0 then (if (l1_3.length:Int) = t113 then (some (a1_2 == 0)) else (some false)) else (some false)) = some r:=H
             have A55:=Aside0.mk A550
             clear A550
             by_cases c56:t113 ≥ 0
             ·rw [if_pos c56] at H
              have c56b0:decide (0 ≤ t113) = true:=decide_eq_true c56
              clear c56
              by_cases c57:(l1_3.length:Int) = t113
              ·rw [if_pos c57] at H
               have c57b0:((l1_3.length:Int) == t113) = true:=beq_iff_eq.mpr c57
               have c57b1:((l1_3.length:Int) != t113) = false:=bne_eq_false_iff_eq.mpr c57
               clear c57
               obtain rfl:=Option.some.inj H
               have hnb58:=NB110_109.out
               have hnc58:=NB109_110.out
               have hcz59_0:wc.cell? ⟨gb110,0,none⟩ = some (.int .i64 a1_0):=(blk_cell BK110.out 0).trans rfl
               have hcz59_1:wc.cell? ⟨gb110,1,none⟩ = some (.int .i64 a1_1):=(blk_cell BK110.out 1).trans rfl
               have hcz59_2:wc.cell? ⟨gb110,2,none⟩ = some (.int .i64 a1_2):=(blk_cell BK110.out 2).trans rfl
               have hcz59_3:wc.cell? ⟨gb110,3,none⟩ = some (.slice A1_3 l1_3.length c1_3):=(blk_cell BK110.out 3).trans rfl
               have hfz59_0:=blk_frozen BK110.out 0
               have hfz59_1:=blk_frozen BK110.out 1
               have hfz59_2:=blk_frozen BK110.out 2
               have hfz59_3:=blk_frozen BK110.out 3
               go_wp2_with (first | (go_at_call 84;(with_reducible refine (ssa_operands.calls kj34 a1_0 t113 _ A55.out).mono ?_);rintro e w' ⟨rfl,⟨nd,rfl⟩⟩;(try first | exact ⟨rfl,_,World.drewN_drewN _ _ _⟩ | exact ⟨rfl,_,Eq.trans (World.drewN_drewN _ _ _) (congrArg (World.drewN _) (Nat.add_assoc _ _ _))⟩)))
               repeat (go_quiet (first | (go_at_call 84;(with_reducible refine (ssa_operands.calls kj34 a1_0 t113 _ A55.out).mono ?_);rintro e w' ⟨rfl,⟨nd,rfl⟩⟩;(try first | exact ⟨rfl,_,World.drewN_drewN _ _ _⟩ | exact ⟨rfl,_,Eq.trans (World.drewN_drewN _ _ _) (congrArg (World.drewN _) (Nat.add_assoc _ _ _))⟩)));try go_wp2_with (first | (go_at_call 84;(with_reducible refine (ssa_operands.calls kj34 a1_0 t113 _ A55.out).mono ?_);rintro e w' ⟨rfl,⟨nd,rfl⟩⟩;(try first | exact ⟨rfl,_,World.drewN_drewN _ _ _⟩ | exact ⟨rfl,_,Eq.trans (World.drewN_drewN _ _ _) (congrArg (World.drewN _) (Nat.add_assoc _ _ _))⟩))))
               go_ret
               exact ⟨by first | rfl | (simp [errW_none,errW_some] <;> rfl) | (simp [*,errW_none,errW_some] <;> rfl),by repeat (first | (with_reducible first | exact HB.out | apply below_alloc | apply pw_below_drewN | apply below_drew1 | refine below_set ?_ GE109.out | refine below_set ?_ GE110.out) | exact HB.out)⟩
              ·rw [if_neg c57] at H
               have c57b0:((l1_3.length:Int) == t113) = false:=beq_eq_false_iff_ne.mpr c57
               have c57b1:((l1_3.length:Int) != t113) = true:=bne_iff_ne.mpr c57
               obtain rfl:=Option.some.inj H
               have hnb60:=NB110_109.out
               have hnc60:=NB109_110.out
               have hcz61_0:wc.cell? ⟨gb110,0,none⟩ = some (.int .i64 a1_0):=(blk_cell BK110.out 0).trans rfl
               have hcz61_1:wc.cell? ⟨gb110,1,none⟩ = some (.int .i64 a1_1):=(blk_cell BK110.out 1).trans rfl
               have hcz61_2:wc.cell? ⟨gb110,2,none⟩ = some (.int .i64 a1_2):=(blk_cell BK110.out 2).trans rfl
               have hcz61_3:wc.cell? ⟨gb110,3,none⟩ = some (.slice A1_3 l1_3.length c1_3):=(blk_cell BK110.out 3).trans rfl
               have hfz61_0:=blk_frozen BK110.out 0
               have hfz61_1:=blk_frozen BK110.out 1
               have hfz61_2:=blk_frozen BK110.out 2
               have hfz61_3:=blk_frozen BK110.out 3
               go_wp2_with (first | (go_at_call 84;(with_reducible refine (ssa_operands.calls kj34 a1_0 t113 _ A55.out).mono ?_);rintro e w' ⟨rfl,⟨nd,rfl⟩⟩;(try first | exact ⟨rfl,_,World.drewN_drewN _ _ _⟩ | exact ⟨rfl,_,Eq.trans (World.drewN_drewN _ _ _) (congrArg (World.drewN _) (Nat.add_assoc _ _ _))⟩)))
               repeat (go_quiet (first | (go_at_call 84;(with_reducible refine (ssa_operands.calls kj34 a1_0 t113 _ A55.out).mono ?_);rintro e w' ⟨rfl,⟨nd,rfl⟩⟩;(try first | exact ⟨rfl,_,World.drewN_drewN _ _ _⟩ | exact ⟨rfl,_,Eq.trans (World.drewN_drewN _ _ _) (congrArg (World.drewN _) (Nat.add_assoc _ _ _))⟩)));try go_wp2_with (first | (go_at_call 84;(with_reducible refine (ssa_operands.calls kj34 a1_0 t113 _ A55.out).mono ?_);rintro e w' ⟨rfl,⟨nd,rfl⟩⟩;(try first | exact ⟨rfl,_,World.drewN_drewN _ _ _⟩ | exact ⟨rfl,_,Eq.trans (World.drewN_drewN _ _ _) (congrArg (World.drewN _) (Nat.add_assoc _ _ _))⟩))))
               go_ret
               exact ⟨by first | rfl | (simp [errW_none,errW_some] <;> rfl) | (simp [*,errW_none,errW_some] <;> rfl),by repeat (first | (with_reducible first | exact HB.out | apply below_alloc | apply pw_below_drewN | apply below_drew1 | refine below_set ?_ GE109.out | refine below_set ?_ GE110.out) | exact HB.out)⟩
             ·rw [if_neg c56] at H
              have c56b0:decide (0 ≤ t113) = false:=decide_eq_false c56
              clear c56
              obtain rfl:=Option.some.inj H
              have hnb62:=NB110_109.out
              have hnc62:=NB109_110.out
              have hcz63_0:wc.cell? ⟨gb110,0,none⟩ = some (.int .i64 a1_0):=(blk_cell BK110.out 0).trans rfl
              have hcz63_1:wc.cell? ⟨gb110,1,none⟩ = some (.int .i64 a1_1):=(blk_cell BK110.out 1).trans rfl
              have hcz63_2:wc.cell? ⟨gb110,2,none⟩ = some (.int .i64 a1_2):=(blk_cell BK110.out 2).trans rfl
              have hcz63_3:wc.cell? ⟨gb110,3,none⟩ = some (.slice A1_3 l1_3.length c1_3):=(blk_cell BK110.out 3).trans rfl
              have hfz63_0:=blk_frozen BK110.out 0
              have hfz63_1:=blk_frozen BK110.out 1
              have hfz63_2:=blk_frozen BK110.out 2
              have hfz63_3:=blk_frozen BK110.out 3
              go_wp2_with (first | (go_at_call 84;(with_reducible refine (ssa_operands.calls kj34 a1_0 t113 _ A55.out).mono ?_);rintro e w' ⟨rfl,⟨nd,rfl⟩⟩;(try first | exact ⟨rfl,_,World.drewN_drewN _ _ _⟩ | exact ⟨rfl,_,Eq.trans (World.drewN_drewN _ _ _) (congrArg (World.drewN _) (Nat.add_assoc _ _ _))⟩)))
              repeat (go_quiet (first | (go_at_call 84;(with_reducible refine (ssa_operands.calls kj34 a1_0 t113 _ A55.out).mono ?_);rintro e w' ⟨rfl,⟨nd,rfl⟩⟩;(try first | exact ⟨rfl,_,World.drewN_drewN _ _ _⟩ | exact ⟨rfl,_,Eq.trans (World.drewN_drewN _ _ _) (congrArg (World.drewN _) (Nat.add_assoc _ _ _))⟩)));try go_wp2_with (first | (go_at_call 84;(with_reducible refine (ssa_operands.calls kj34 a1_0 t113 _ A55.out).mono ?_);rintro e w' ⟨rfl,⟨nd,rfl⟩⟩;(try first | exact ⟨rfl,_,World.drewN_drewN _ _ _⟩ | exact ⟨rfl,_,Eq.trans (World.drewN_drewN _ _ _) (congrArg (World.drewN _) (Nat.add_assoc _ _ _))⟩))))
              go_ret
              exact ⟨by first | rfl | (simp [errW_none,errW_some] <;> rfl) | (simp [*,errW_none,errW_some] <;> rfl),by repeat (first | (with_reducible first | exact HB.out | apply below_alloc | apply pw_below_drewN | apply below_drew1 | refine below_set ?_ GE109.out | refine below_set ?_ GE110.out) | exact HB.out)⟩
end Go.Proofs.Ytgbeliajhccndaa.PP
