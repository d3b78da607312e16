-- PRINTED by print.py (a twelfth state) out of the translation. Not trusted: Lean checks it.
import Derived.Test.YtameoapnhmoleaaPU
import Derived.Test.YtameoapnhmoleaaPP3
import Derived.Test.YtameoapnhmoleaaPP7
import Derived.Test.YtameoapnhmoleaaPQ8
namespace Go.Proofs.Ytameoapnhmoleaa.PP
open Go.RowKit Go.Proofs.YtameoapnhmoleaaW.PrintWords Go.Proofs.YtameoapnhmoleaaW.PrintLast Go.Proofs.YtameoapnhmoleaaW.PrintMore
attribute [local go_sem] max2_int min2_int max_two min_two max_three min_three max_four min_four   -- for this text's walks alone
set_option linter.unusedVariables false
set_option linter.unusedSimpArgs false

def quernref13_Order.T8 : Bool × List (List Nat × List Nat) := (true, [([], []), ([], []), ([0, 1], [0, 1]), ([2], [2]), ([3], [3]), ([], []), ([], []), ([5, 6], [5, 6]), ([7], [7]), ([8], [8]), ([4, 9], [4, 9]), ([10], [10])])
def quernref13_Order.B8 : List Nat := [0, 0, 3, 7, 15, 0, 0, 96, 224, 480, 1023, 2047]
theorem quernref13_Order.tab8 : rtab .any (opsOf Try.f12 8) = quernref13_Order.T8 := by kernel_rfl
theorem quernref13_Order.bits8 : waitsOk quernref13_Order.T8.2 quernref13_Order.B8 = true := by kernel_rfl
def quernref13_Order.T16 : Bool × List (List Nat × List Nat) := (true, [([], []), ([], []), ([], []), ([2], [2]), ([3], [3]), ([4], [4]), ([1, 5], [1, 5]), ([6], [6]), ([0, 7], [0, 7]), ([8, 8, 0, 1, 2, 3, 4, 5, 6, 7, 8], [0, 8])])
def quernref13_Order.B16 : List Nat := [0, 0, 0, 4, 12, 28, 62, 126, 255, 511]
theorem quernref13_Order.tab16 : rtab .any (opsOf Try.f12 16) = quernref13_Order.T16 := by kernel_rfl
theorem quernref13_Order.bits16 : waitsOk quernref13_Order.T16.2 quernref13_Order.B16 = true := by kernel_rfl
def quernref13_Order.T19 : Bool × List (List Nat × List Nat) := (true, [([], []), ([], []), ([0, 1], [0, 1]), ([], []), ([], []), ([4], [4]), ([3, 5], [3, 5]), ([2, 6], [2, 6]), ([7, 7, 0, 1, 2, 3, 4, 5, 6, 7], [0, 3, 7])])
def quernref13_Order.B19 : List Nat := [0, 0, 3, 0, 0, 16, 56, 127, 255]
theorem quernref13_Order.tab19 : rtab .any (opsOf Try.f12 19) = quernref13_Order.T19 := by kernel_rfl
theorem quernref13_Order.bits19 : waitsOk quernref13_Order.T19.2 quernref13_Order.B19 = true := by kernel_rfl
set_option maxHeartbeats 8000000 in
set_option maxRecDepth 100000 in
theorem quernref13_Order.calls (k : Nat) (A0 : Option Addr) (c0 : Nat) (l0 : List (S36)) (a1_0 : Int) (a1_1 : Int) (r1 : List (S36)) (r2 : Int) (w : World) (hr0 : Kd.C k36 w A0 l0.length l0) (hc0 : l0.length ≤ c0) (h : quernref13_Order.f k l0 a1_0 a1_1 = some (r1, r2)) :
  Calls Try.prog 12 #[.slice A0 l0.length c0, .agg #[.int .i64 a1_0, .int .i64 a1_1]] w fun e w' => ∃ v0_ : Value, e = .returned (.tuple #[v0_, .int .i64 r2]) ∧ Kd.R k36 36 w' w.heap.size (fun _ => True) v0_ r1 ∧ Below w.heap.size w w' := by
 have hu24 := Try.underlying24
 have hu36 := Try.underlying36
 have HR0 := Aside0.mk hr0
 have HC0 := Aside0.mk hc0
 clear hr0 hc0
 have HB := Aside0.mk (Below.refl w.heap.size w)
 have H : ((quernref13_Refuse.f k l0 a1_0 a1_1).bind fun t152 => (if t152 = 0 then (quernref13_Order.l0 k l0 ([] : List (S36)) 0 a1_0 a1_1) else (some (([] : List (S36)), t152)))) = some (r1, r2) := h
 clear h
 replace H := Option.bind_eq_some_iff.mp H
 obtain ⟨t152, A30, H⟩ := H
 replace H : (if t152 = 0 then (quernref13_Order.l0 k l0 ([] : List (S36)) 0 a1_0 a1_1) else (some (([] : List (S36)), t152))) = some (r1, r2) := H
 have A3 := Aside0.mk A30
 clear A30
 by_cases c4 : t152 = 0
 ·rw [if_pos c4] at H
  have c4b0 : (t152 == 0) = true := beq_iff_eq.mpr c4
  have c4b1 : (t152 != 0) = false := bne_eq_false_iff_eq.mpr c4
  clear c4
  have H' := Aside0.mk H
  clear H
  go_enter Try.func12, Try.ntmps12
  go_wp2_with (first | ((with_reducible refine gate_dst (N := 3) rfl ?_); refine box_event ?hg (N := 3) ?hd (cs := #[.int .i64 a1_0, .int .i64 a1_1]) (t := 24) ?hr ?_; (case hd => rfl); (case hg => rfl); (case hr => first | (go_simp; done) | (go_simp; rfl)); intro gb151 hg w5 hbox hb; have n0_ := Aside0.mk (below_step (by repeat (first | (with_reducible first | exact HB.out | apply below_alloc | apply pw_below_drewN | apply below_drew1) | exact HB.out)) hb); have n1_ := Aside0.mk (hbox); have n2_ := Aside0.mk ((by rw [hg]; exact (below_size (by repeat (first | (with_reducible first | exact HB.out | apply below_alloc | apply pw_below_drewN | apply below_drew1) | exact HB.out))) : w.heap.size ≤ gb151)); have n3_ := Aside0.mk ((by rw [hg]; exact (below_size (by repeat (first | (with_reducible first | exact HB.out | apply below_alloc | apply pw_below_drewN | apply below_drew1) | exact HB.out))) : w.heap.size ≤ gb151)); clear HB; have HB := n0_; have BK151 := n1_; have GW151 := n2_; have GE151 := n3_; clear n0_ n1_ n2_ n3_; clear hb hbox hg; have hcz6_0 : w5.cell? ⟨gb151, 0, none⟩ = some (.int .i64 a1_0) := (blk_cell BK151.out 0).trans rfl; have hcz6_1 : w5.cell? ⟨gb151, 1, none⟩ = some (.int .i64 a1_1) := (blk_cell BK151.out 1).trans rfl; have hfz6_0 := blk_frozen BK151.out 0; have hfz6_1 := blk_frozen BK151.out 1) | ((with_reducible refine gate_callee (f := 26) rfl ?_); refine goesL_ (some 13) rfl rfl Try.func26 (by kernel_rfl) rfl #[.slice A0 l0.length c0, .agg #[.int .i64 a1_0, .int .i64 a1_1]] rfl (by (try simp only [List.map_toArray, List.map_cons, List.map_nil]); first | done | rfl | (simp only [List.length_drop, List.length_take]; rfl)) ?_; (with_reducible refine (quernref13_Refuse.calls k _ _ l0 a1_0 a1_1 t152 _ ?side1 ?side2 A3.out).mono ?_); (case side1 => repeat (first | exact (Kd.C_below HR0.out HB.out) | (with_reducible refine Kd.C_alloc ?_ _) | (with_reducible refine Kd.C_drewN ?_ _) | (with_reducible refine Kd.C_drew ?_))); (case side2 => exact HC0.out); rintro e w7 ⟨rfl, hb⟩; refine ⟨_, rfl, ?_⟩; have n0_ := Aside0.mk (blk_below (g := gb151) (o := .cells #[.int .i64 a1_0, .int .i64 a1_1] 24 (0, 0)) (by (with_reducible repeat (first | refine blk_drewN ?_ _ | refine blk_drew ?_ | refine blk_alloc ?_ _)); exact BK151.out) hb); have n1_ := Aside0.mk (below_step (by repeat (first | (with_reducible first | exact HB.out | apply below_alloc | apply pw_below_drewN | apply below_drew1 | refine below_set ?_ GE151.out) | exact HB.out)) hb); clear BK151; clear HB; have BK151 := n0_; have HB := n1_; clear n0_ n1_; (try clear hb); (try clear hb2); (try clear hk); (try clear hi)))
  go_loopg [7, 8] k (fun kq v7 v8 w' => ∃ (x7_1 : List (S36)) (x8_1 : Int), v8 = .int .i64 x8_1 ∧ Aside0 (quernref13_Order.l0 kq l0 x7_1 x8_1 a1_0 a1_1 = some (r1, r2)) ∧ Aside0 (kq ≤ k) ∧ Aside0 (Kd.R k36 36 w' w.heap.size (fun _ => True) v7 x7_1) ∧ Aside0 (w'.heap[gb151]? = some (.cells #[.int .i64 a1_0, .int .i64 a1_1] 24 (0, 0))) ∧ Aside0 (Below w.heap.size w w'))
  case atStart => exact ⟨(([] : List (S36))), (0), (by first | rfl | (simp; done) | (simp [*]; done)), H', ⟨Nat.le_refl _⟩, ⟨by first | exact Kd.R_nil _ _ _ _ _ | exact Kd.N_nil _ _ _ _ _ | exact Kd.V_nil _ _ _ _ _ | exact Kd.Q_nil _ _ _ _ _ | exact Kd.S_nil _ _ _ _ _⟩, ⟨by (with_reducible repeat (first | refine blk_drewN ?_ _ | refine blk_drew ?_ | refine blk_alloc ?_ _)); exact BK151.out⟩, ⟨by repeat (first | (with_reducible first | exact HB.out | apply below_alloc | apply pw_below_drewN | apply below_drew1 | refine below_set ?_ GE151.out) | exact HB.out)⟩⟩
  case round =>
   clear H'
   try clear c1
   try clear c2
   try clear p2
   try clear c4
   try clear c4b0
   try clear c4b1
   try clear hcz6_0
   try clear hcz6_1
   try clear hfz6_0
   try clear hfz6_1
   obtain ⟨x7_1, x8_1, rfl, HA, HK1, HO_7, BK151, HB⟩ := hrel
   cases gk with
   | zero => exact absurd HA.out (by simp [quernref13_Order.l0])
   | succ k1 =>
    have H := HA.out
    clear HA
    simp only [quernref13_Order.l0] at H
    by_cases c8 : x8_1 < (l0.length : Int)
    ·rw [if_pos c8] at H
     have c8b0 : decide (x8_1 < (l0.length : Int)) = true := decide_eq_true c8
     clear c8
     by_cases c9 : 0 ≤ x8_1
     ·rw [if_pos c9] at H
      have c9b0 : decide (0 ≤ x8_1) = true := decide_eq_true c9
      clear c9
      replace H := Option.bind_eq_some_iff.mp H
      obtain ⟨t155, A100, H⟩ := H
      replace H : (if t155 = true then (quernref13_Order.l0 k1 l0 x7_1 (wrap64 (x8_1 + 1)) a1_0 a1_1) else (if x7_1.length < 4398046511104 then (quernref13_Order.l0 k1 l0 (x7_1 ++ [(⟨(⟨(rd_T36 l0 x8_1).f0.f0, (rd_T36 l0 x8_1).f0.f1⟩ : S24), (⟨(rd_T36 l0 x8_1).f1.f0, (rd_T36 l0 x8_1).f1.f1⟩ : S24)⟩ : S36)]) (wrap64 (x8_1 + 1)) a1_0 a1_1) else (none))) = some (r1, r2) := H
      have A10 := Aside0.mk A100
      clear A100
      by_cases c11 : t155 = true
      ·subst c11
       have H1 : (quernref13_Order.l0 k1 l0 x7_1 (wrap64 (x8_1 + 1)) a1_0 a1_1) = some (r1, r2) := by rw [if_pos rfl] at H; exact H
       clear H
       have H := H1
       clear H1
       have H' := Aside0.mk H
       clear H
       try go_wp2
       have n0_ := Aside0.mk (Kd.R_drew HO_7.out)
       have n1_ := Aside0.mk (blk_drew BK151.out)
       have n2_ := Aside0.mk (below_drew1 HB.out)
       clear HO_7
       clear BK151
       clear HB
       have HO_7 := n0_
       have BK151 := n1_
       have HB := n2_
       clear n0_ n1_ n2_
       have p153 : 0 ≤ (x8_1 : Int) := of_decide_eq_true (by first | (with_reducible assumption) | assumption)
       have q153 : x8_1 < (l0.length : Int) := of_decide_eq_true (by first | (with_reducible assumption) | assumption)
       obtain ⟨ad153, e153, hx153_0, hx153_1, hx153_2, hx153_3⟩ := at_T36 HR0.out x8_1 p153 q153
       have hw153_3 := hx153_3
       have hw153_2 := hx153_2
       have hw153_1 := hx153_1
       have hw153_0 := hx153_0
       cases e153
       replace hx153_0 := cellA HB hx153_0
       replace hx153_1 := cellA HB hx153_1
       replace hx153_2 := cellA HB hx153_2
       replace hx153_3 := cellA HB hx153_3
       replace p153 := eq_true p153
       replace q153 := eq_true q153
       have p154 : 0 ≤ (x8_1 : Int) := of_decide_eq_true (by first | (with_reducible assumption) | assumption)
       have q154 : x8_1 < (l0.length : Int) := of_decide_eq_true (by first | (with_reducible assumption) | assumption)
       obtain ⟨ad154, e154, hx154_0, hx154_1, hx154_2, hx154_3⟩ := at_T36 HR0.out x8_1 p154 q154
       have hw154_3 := hx154_3
       have hw154_2 := hx154_2
       have hw154_1 := hx154_1
       have hw154_0 := hx154_0
       obtain rfl : ad153 = ad154 := (by injection e154)
       replace hx154_0 := cellA HB hx154_0
       replace hx154_1 := cellA HB hx154_1
       replace hx154_2 := cellA HB hx154_2
       replace hx154_3 := cellA HB hx154_3
       replace p154 := eq_true p154
       replace q154 := eq_true q154
       refine start_ (n := 12) (S := fun w' => w'.cell? (ad153.add ((x8_1).toNat * 4)) = some (.int .i64 ((rd_T36 l0 x8_1).f0.f0)) ∧ w'.cell? ⟨(ad153.add ((x8_1).toNat * 4)).block, (ad153.add ((x8_1).toNat * 4)).off + 1, none⟩ = some (.int .i64 ((rd_T36 l0 x8_1).f0.f1)) ∧ w'.cell? ⟨(ad153.add ((x8_1).toNat * 4)).block, (ad153.add ((x8_1).toNat * 4)).off + 2, none⟩ = some (.int .i64 ((rd_T36 l0 x8_1).f1.f0)) ∧ w'.cell? ⟨(ad153.add ((x8_1).toNat * 4)).block, (ad153.add ((x8_1).toNat * 4)).off + 3, none⟩ = some (.int .i64 ((rd_T36 l0 x8_1).f1.f1)) ∧ w'.cell? (ad153.add ((x8_1).toNat * 4)) = some (.int .i64 ((rd_T36 l0 x8_1).f0.f0)) ∧ w'.cell? ⟨(ad153.add ((x8_1).toNat * 4)).block, (ad153.add ((x8_1).toNat * 4)).off + 1, none⟩ = some (.int .i64 ((rd_T36 l0 x8_1).f0.f1)) ∧ w'.cell? ⟨(ad153.add ((x8_1).toNat * 4)).block, (ad153.add ((x8_1).toNat * 4)).off + 2, none⟩ = some (.int .i64 ((rd_T36 l0 x8_1).f1.f0)) ∧ w'.cell? ⟨(ad153.add ((x8_1).toNat * 4)).block, (ad153.add ((x8_1).toNat * 4)).off + 3, none⟩ = some (.int .i64 ((rd_T36 l0 x8_1).f1.f1))) (ds := []) (bl 0 12) (by kernel_rfl) rfl rfl ⟨(cellA HB hw153_0), (cellA HB hw153_1), (cellA HB hw153_2), (cellA HB hw153_3), (cellA HB hw154_0), (cellA HB hw154_1), (cellA HB hw154_2), (cellA HB hw154_3)⟩ (fun hHeld => ?_); refine with_tabW quernref13_Order.tab8 quernref13_Order.bits8 (fun HT_ HW_ => ?_)
       generalize wr.drew = w12 at HO_7 BK151 HB hx153_0 hx153_1 hx153_2 hx153_3 hx154_0 hx154_1 hx154_2 hx154_3 hHeld ⊢
       refine pure_ (i := 0) (N := some 23) (v := ?_) (a' := ?_) (bl 1 12) rfl rfl (any_of HT_.out (by kernel_rfl)) (fun _ _ _ h => h) (Or.inl ⟨by rfl, ?_⟩) ?_ ?_
       rotate_left
       ·intro w'
        go_simp
        with_reducible rfl
       rotate_left
       ·simp only [Act.put, List.setIfInBounds_toArray, List.set_cons_zero, List.set_cons_succ, i64_w, i32_w]
        rfl
       refine pure_ (i := 1) (N := some 24) (v := ?_) (a' := ?_) (bl 2 12) rfl rfl (any_of HT_.out (by kernel_rfl)) (fun _ _ _ h => h) (Or.inl ⟨by rfl, ?_⟩) ?_ ?_
       rotate_left
       ·intro w'
        go_simp
        with_reducible rfl
       rotate_left
       ·simp only [Act.put, List.setIfInBounds_toArray, List.set_cons_zero, List.set_cons_succ, i64_w, i32_w]
        rfl
       refine pure_ (i := 2) (N := some 25) (v := ?_) (a' := ?_) (bl 3 12) rfl rfl (any_of HT_.out (by kernel_rfl)) (fun _ _ _ h => h) (Or.inl ⟨by rfl, ?_⟩) ?_ ?_
       rotate_left
       ·intro w'
        go_simp
        with_reducible rfl
       rotate_left
       ·simp only [Act.put, List.setIfInBounds_toArray, List.set_cons_zero, List.set_cons_succ, i64_w, i32_w]
        rfl
       refine pure_ (i := 3) (N := some 26) (v := ?_) (a' := ?_) (bl 4 12) rfl rfl (any_of HT_.out (by kernel_rfl)) (fun _ _ _ h => h) (Or.inl ⟨by rfl, ?_⟩) ?_ ?_
       rotate_left
       ·intro w'
        go_simp
        with_reducible rfl
       rotate_left
       ·simp only [Act.put, List.setIfInBounds_toArray, List.set_cons_zero, List.set_cons_succ, i64_w, i32_w]
        rfl
       refine pure_ (i := 5) (N := some 28) (v := ?_) (a' := ?_) #[true, true, true, true, false, true, false, false, false, false, false, false] rfl rfl (any_of HT_.out (by kernel_rfl)) (fun _ _ _ h => h) (Or.inl ⟨by rfl, ?_⟩) ?_ ?_
       rotate_left
       ·intro w'
        go_simp
        with_reducible rfl
       rotate_left
       ·simp only [Act.put, List.setIfInBounds_toArray, List.set_cons_zero, List.set_cons_succ, i64_w, i32_w]
        rfl
       refine pure_ (i := 6) (N := some 29) (v := ?_) (a' := ?_) #[true, true, true, true, false, true, true, false, false, false, false, false] rfl rfl (any_of HT_.out (by kernel_rfl)) (fun _ _ _ h => h) (Or.inl ⟨by rfl, ?_⟩) ?_ ?_
       rotate_left
       ·intro w'
        go_simp
        with_reducible rfl
       rotate_left
       ·simp only [Act.put, List.setIfInBounds_toArray, List.set_cons_zero, List.set_cons_succ, i64_w, i32_w]
        rfl
       refine pure_ (i := 7) (N := some 30) (v := ?_) (a' := ?_) #[true, true, true, true, false, true, true, true, false, false, false, false] rfl rfl (any_of HT_.out (by kernel_rfl)) (fun _ _ _ h => h) (Or.inl ⟨by rfl, ?_⟩) ?_ ?_
       rotate_left
       ·intro w'
        go_simp
        with_reducible rfl
       rotate_left
       ·simp only [Act.put, List.setIfInBounds_toArray, List.set_cons_zero, List.set_cons_succ, i64_w, i32_w]
        rfl
       refine pure_ (i := 8) (N := some 31) (v := ?_) (a' := ?_) #[true, true, true, true, false, true, true, true, true, false, false, false] rfl rfl (any_of HT_.out (by kernel_rfl)) (fun _ _ _ h => h) (Or.inl ⟨by rfl, ?_⟩) ?_ ?_
       rotate_left
       ·intro w'
        go_simp
        with_reducible rfl
       rotate_left
       ·simp only [Act.put, List.setIfInBounds_toArray, List.set_cons_zero, List.set_cons_succ, i64_w, i32_w]
        rfl
       refine take_ (i := 4) (N := some 27) (v := ?_) (a' := ?_) (bl 9 12) rfl rfl (take_ofW HT_.out HW_.out (by kernel_rfl)) (fun _ _ _ h => h) (Or.inl ⟨by rfl, ?_⟩) hHeld ?_ ?_
       rotate_left
       ·rintro w' ⟨s0, s1, s2, s3, s4, s5, s6, s7⟩
        go_simp
        with_reducible rfl
       rotate_left
       ·simp only [Act.put, List.setIfInBounds_toArray, List.set_cons_zero, List.set_cons_succ, i64_w, i32_w]
        rfl
       refine take_ (i := 9) (N := some 32) (v := ?_) (a' := ?_) (bl 10 12) rfl rfl (take_ofW HT_.out HW_.out (by kernel_rfl)) (fun _ _ _ h => h) (Or.inl ⟨by rfl, ?_⟩) hHeld ?_ ?_
       rotate_left
       ·rintro w' ⟨s0, s1, s2, s3, s4, s5, s6, s7⟩
        go_simp
        with_reducible rfl
       rotate_left
       ·simp only [Act.put, List.setIfInBounds_toArray, List.set_cons_zero, List.set_cons_succ, i64_w, i32_w]
        rfl
       refine one_ (i := 10) (N := some 33) (bl 11 12) rfl rfl (one_of HT_.out (by kernel_rfl)) (by decide) (fun K hK => ?_)
       refine goes_ Try.func27 (by kernel_rfl) rfl #[.agg #[.int .i64 ((rd_T36 l0 x8_1).f1.f0), .int .i64 ((rd_T36 l0 x8_1).f1.f1)], .agg #[.int .i64 ((rd_T36 l0 x8_1).f0.f0), .int .i64 ((rd_T36 l0 x8_1).f0.f1)]] (by rfl) rfl rfl (by (try simp only [List.map_toArray, List.map_cons, List.map_nil]); first | done | rfl | (simp only [List.length_drop, List.length_take]; rfl)) ?_
       with_reducible refine (quernref13_Same.calls ((rd_T36 l0 x8_1).f1.f0) ((rd_T36 l0 x8_1).f1.f1) ((rd_T36 l0 x8_1).f0.f0) ((rd_T36 l0 x8_1).f0.f1) true _ A10.out).mono ?_
       rintro e w13 ⟨rfl, hb⟩
       refine ⟨_, rfl, ?_⟩
       have n0_ := Aside0.mk (Kd.R_below (by (with_reducible repeat (first | apply Kd.R_alloc | apply Kd.R_drewN | apply Kd.R_drew)); exact HO_7.out) hb)
       have n1_ := Aside0.mk (blk_below (g := gb151) (o := .cells #[.int .i64 a1_0, .int .i64 a1_1] 24 (0, 0)) (by (with_reducible repeat (first | refine blk_drewN ?_ _ | refine blk_drew ?_ | refine blk_alloc ?_ _)); exact BK151.out) hb)
       have n2_ := Aside0.mk (below_step (by repeat (first | (with_reducible first | exact HB.out | apply below_alloc | apply pw_below_drewN | apply below_drew1 | refine below_set ?_ GE151.out) | exact HB.out)) hb)
       clear HO_7
       clear BK151
       clear HB
       have HO_7 := n0_
       have BK151 := n1_
       have HB := n2_
       clear n0_ n1_ n2_
       (try clear hb)
       (try clear hb2)
       (try clear hk)
       (try clear hi)
       refine hK.out _ _ ⟨(cellA HB hw153_0), (cellA HB hw153_1), (cellA HB hw153_2), (cellA HB hw153_3), (cellA HB hw154_0), (cellA HB hw154_1), (cellA HB hw154_2), (cellA HB hw154_3)⟩ (fun hHeld => ?_)
       clear hK K
       refine norm_ (a' := ?_) ?_ ?_
       rotate_left
       ·show Act.put _ (some 33) _ = _
        simp only [Act.put, List.setIfInBounds_toArray, List.set_cons_zero, List.set_cons_succ, i64_w, i32_w]
        rfl
       refine pure_ (i := 11) (N := some 34) (v := ?_) (a' := ?_) (bl 12 12) rfl rfl (any_of HT_.out (by kernel_rfl)) (fun _ _ _ h => h) (Or.inl ⟨by rfl, ?_⟩) ?_ ?_
       rotate_left
       ·intro w'
        go_simp
        with_reducible rfl
       rotate_left
       ·simp only [Act.put, List.setIfInBounds_toArray, List.set_cons_zero, List.set_cons_succ, i64_w, i32_w]
        rfl
       refine done_ (done_of HT_.out (by kernel_rfl)) ?_
       try go_wp2
       go_roundg k1
       case measure => have := HK1.out; omega
       case rel => exact ⟨(x7_1), (wrap64 (x8_1 + 1)), (by first | rfl | (simp; done) | (simp [*]; done)), H', ⟨by have := HK1.out; omega⟩, ⟨by (with_reducible repeat (first | apply Kd.R_alloc | apply Kd.R_drewN | apply Kd.R_drew)); exact HO_7.out⟩, ⟨by (with_reducible repeat (first | refine blk_drewN ?_ _ | refine blk_drew ?_ | refine blk_alloc ?_ _)); exact BK151.out⟩, ⟨by repeat (first | (with_reducible first | exact HB.out | apply below_alloc | apply pw_below_drewN | apply below_drew1 | refine below_set ?_ GE151.out) | exact HB.out)⟩⟩
      ·replace c11 := Bool.eq_false_iff.mpr c11
       subst c11
       have H1 : (if x7_1.length < 4398046511104 then (quernref13_Order.l0 k1 l0 (x7_1 ++ [(⟨(⟨(rd_T36 l0 x8_1).f0.f0, (rd_T36 l0 x8_1).f0.f1⟩ : S24), (⟨(rd_T36 l0 x8_1).f1.f0, (rd_T36 l0 x8_1).f1.f1⟩ : S24)⟩ : S36)]) (wrap64 (x8_1 + 1)) a1_0 a1_1) else (none)) = some (r1, r2) := by rw [if_neg (show ¬ (false = true) by decide)] at H; exact H
       clear H
       have H := H1
       clear H1
       by_cases c14 : x7_1.length < 4398046511104
       ·rw [if_pos c14] at H
        have LMc14 := Aside0.mk c14
        clear c14
        obtain ⟨y157, hy157⟩ : ∃ y_ : List (S36), y_ = (x7_1 ++ [(⟨(⟨(rd_T36 l0 x8_1).f0.f0, (rd_T36 l0 x8_1).f0.f1⟩ : S24), (⟨(rd_T36 l0 x8_1).f1.f0, (rd_T36 l0 x8_1).f1.f1⟩ : S24)⟩ : S36)]) := ⟨_, rfl⟩
        replace H : (quernref13_Order.l0 k1 l0 y157 (wrap64 (x8_1 + 1)) a1_0 a1_1) = some (r1, r2) := by first | (rw [hy157]; with_reducible exact H) | (have H2_ := (Option.bind_some _ _).symm.trans H; rw [hy157]; with_reducible exact H2_) | (have H2_ := (Option.bind_some _ _).symm.trans H; with_reducible exact H2_) | with_reducible exact H | (rw [hy157]; exact H) | exact H
        have Ny157 := Aside0.mk hy157
        clear hy157
        have H' := Aside0.mk H
        clear H
        try go_wp2
        have n0_ := Aside0.mk (Kd.R_drew HO_7.out)
        have n1_ := Aside0.mk (blk_drew BK151.out)
        have n2_ := Aside0.mk (below_drew1 HB.out)
        clear HO_7
        clear BK151
        clear HB
        have HO_7 := n0_
        have BK151 := n1_
        have HB := n2_
        clear n0_ n1_ n2_
        have p153 : 0 ≤ (x8_1 : Int) := of_decide_eq_true (by first | (with_reducible assumption) | assumption)
        have q153 : x8_1 < (l0.length : Int) := of_decide_eq_true (by first | (with_reducible assumption) | assumption)
        obtain ⟨ad153, e153, hx153_0, hx153_1, hx153_2, hx153_3⟩ := at_T36 HR0.out x8_1 p153 q153
        have hw153_3 := hx153_3
        have hw153_2 := hx153_2
        have hw153_1 := hx153_1
        have hw153_0 := hx153_0
        cases e153
        replace hx153_0 := cellA HB hx153_0
        replace hx153_1 := cellA HB hx153_1
        replace hx153_2 := cellA HB hx153_2
        replace hx153_3 := cellA HB hx153_3
        replace p153 := eq_true p153
        replace q153 := eq_true q153
        have p154 : 0 ≤ (x8_1 : Int) := of_decide_eq_true (by first | (with_reducible assumption) | assumption)
        have q154 : x8_1 < (l0.length : Int) := of_decide_eq_true (by first | (with_reducible assumption) | assumption)
        obtain ⟨ad154, e154, hx154_0, hx154_1, hx154_2, hx154_3⟩ := at_T36 HR0.out x8_1 p154 q154
        have hw154_3 := hx154_3
        have hw154_2 := hx154_2
        have hw154_1 := hx154_1
        have hw154_0 := hx154_0
        obtain rfl : ad153 = ad154 := (by injection e154)
        replace hx154_0 := cellA HB hx154_0
        replace hx154_1 := cellA HB hx154_1
        replace hx154_2 := cellA HB hx154_2
        replace hx154_3 := cellA HB hx154_3
        replace p154 := eq_true p154
        replace q154 := eq_true q154
        refine start_ (n := 12) (S := fun w' => w'.cell? (ad153.add ((x8_1).toNat * 4)) = some (.int .i64 ((rd_T36 l0 x8_1).f0.f0)) ∧ w'.cell? ⟨(ad153.add ((x8_1).toNat * 4)).block, (ad153.add ((x8_1).toNat * 4)).off + 1, none⟩ = some (.int .i64 ((rd_T36 l0 x8_1).f0.f1)) ∧ w'.cell? ⟨(ad153.add ((x8_1).toNat * 4)).block, (ad153.add ((x8_1).toNat * 4)).off + 2, none⟩ = some (.int .i64 ((rd_T36 l0 x8_1).f1.f0)) ∧ w'.cell? ⟨(ad153.add ((x8_1).toNat * 4)).block, (ad153.add ((x8_1).toNat * 4)).off + 3, none⟩ = some (.int .i64 ((rd_T36 l0 x8_1).f1.f1)) ∧ w'.cell? (ad153.add ((x8_1).toNat * 4)) = some (.int .i64 ((rd_T36 l0 x8_1).f0.f0)) ∧ w'.cell? ⟨(ad153.add ((x8_1).toNat * 4)).block, (ad153.add ((x8_1).toNat * 4)).off + 1, none⟩ = some (.int .i64 ((rd_T36 l0 x8_1).f0.f1)) ∧ w'.cell? ⟨(ad153.add ((x8_1).toNat * 4)).block, (ad153.add ((x8_1).toNat * 4)).off + 2, none⟩ = some (.int .i64 ((rd_T36 l0 x8_1).f1.f0)) ∧ w'.cell? ⟨(ad153.add ((x8_1).toNat * 4)).block, (ad153.add ((x8_1).toNat * 4)).off + 3, none⟩ = some (.int .i64 ((rd_T36 l0 x8_1).f1.f1))) (ds := []) (bl 0 12) (by kernel_rfl) rfl rfl ⟨(cellA HB hw153_0), (cellA HB hw153_1), (cellA HB hw153_2), (cellA HB hw153_3), (cellA HB hw154_0), (cellA HB hw154_1), (cellA HB hw154_2), (cellA HB hw154_3)⟩ (fun hHeld => ?_); refine with_tabW quernref13_Order.tab8 quernref13_Order.bits8 (fun HT_ HW_ => ?_)
        generalize wr.drew = w15 at HO_7 BK151 HB hx153_0 hx153_1 hx153_2 hx153_3 hx154_0 hx154_1 hx154_2 hx154_3 hHeld ⊢
        refine pure_ (i := 0) (N := some 23) (v := ?_) (a' := ?_) (bl 1 12) rfl rfl (any_of HT_.out (by kernel_rfl)) (fun _ _ _ h => h) (Or.inl ⟨by rfl, ?_⟩) ?_ ?_
        rotate_left
        ·intro w'
         go_simp
         with_reducible rfl
        rotate_left
        ·simp only [Act.put, List.setIfInBounds_toArray, List.set_cons_zero, List.set_cons_succ, i64_w, i32_w]
         rfl
        refine pure_ (i := 1) (N := some 24) (v := ?_) (a' := ?_) (bl 2 12) rfl rfl (any_of HT_.out (by kernel_rfl)) (fun _ _ _ h => h) (Or.inl ⟨by rfl, ?_⟩) ?_ ?_
        rotate_left
        ·intro w'
         go_simp
         with_reducible rfl
        rotate_left
        ·simp only [Act.put, List.setIfInBounds_toArray, List.set_cons_zero, List.set_cons_succ, i64_w, i32_w]
         rfl
        refine pure_ (i := 2) (N := some 25) (v := ?_) (a' := ?_) (bl 3 12) rfl rfl (any_of HT_.out (by kernel_rfl)) (fun _ _ _ h => h) (Or.inl ⟨by rfl, ?_⟩) ?_ ?_
        rotate_left
        ·intro w'
         go_simp
         with_reducible rfl
        rotate_left
        ·simp only [Act.put, List.setIfInBounds_toArray, List.set_cons_zero, List.set_cons_succ, i64_w, i32_w]
         rfl
        refine pure_ (i := 3) (N := some 26) (v := ?_) (a' := ?_) (bl 4 12) rfl rfl (any_of HT_.out (by kernel_rfl)) (fun _ _ _ h => h) (Or.inl ⟨by rfl, ?_⟩) ?_ ?_
        rotate_left
        ·intro w'
         go_simp
         with_reducible rfl
        rotate_left
        ·simp only [Act.put, List.setIfInBounds_toArray, List.set_cons_zero, List.set_cons_succ, i64_w, i32_w]
         rfl
        refine pure_ (i := 5) (N := some 28) (v := ?_) (a' := ?_) #[true, true, true, true, false, true, false, false, false, false, false, false] rfl rfl (any_of HT_.out (by kernel_rfl)) (fun _ _ _ h => h) (Or.inl ⟨by rfl, ?_⟩) ?_ ?_
        rotate_left
        ·intro w'
         go_simp
         with_reducible rfl
        rotate_left
        ·simp only [Act.put, List.setIfInBounds_toArray, List.set_cons_zero, List.set_cons_succ, i64_w, i32_w]
         rfl
        refine pure_ (i := 6) (N := some 29) (v := ?_) (a' := ?_) #[true, true, true, true, false, true, true, false, false, false, false, false] rfl rfl (any_of HT_.out (by kernel_rfl)) (fun _ _ _ h => h) (Or.inl ⟨by rfl, ?_⟩) ?_ ?_
        rotate_left
        ·intro w'
         go_simp
         with_reducible rfl
        rotate_left
        ·simp only [Act.put, List.setIfInBounds_toArray, List.set_cons_zero, List.set_cons_succ, i64_w, i32_w]
         rfl
        refine pure_ (i := 7) (N := some 30) (v := ?_) (a' := ?_) #[true, true, true, true, false, true, true, true, false, false, false, false] rfl rfl (any_of HT_.out (by kernel_rfl)) (fun _ _ _ h => h) (Or.inl ⟨by rfl, ?_⟩) ?_ ?_
        rotate_left
        ·intro w'
         go_simp
         with_reducible rfl
        rotate_left
        ·simp only [Act.put, List.setIfInBounds_toArray, List.set_cons_zero, List.set_cons_succ, i64_w, i32_w]
         rfl
        refine pure_ (i := 8) (N := some 31) (v := ?_) (a' := ?_) #[true, true, true, true, false, true, true, true, true, false, false, false] rfl rfl (any_of HT_.out (by kernel_rfl)) (fun _ _ _ h => h) (Or.inl ⟨by rfl, ?_⟩) ?_ ?_
        rotate_left
        ·intro w'
         go_simp
         with_reducible rfl
        rotate_left
        ·simp only [Act.put, List.setIfInBounds_toArray, List.set_cons_zero, List.set_cons_succ, i64_w, i32_w]
         rfl
        refine take_ (i := 4) (N := some 27) (v := ?_) (a' := ?_) (bl 9 12) rfl rfl (take_ofW HT_.out HW_.out (by kernel_rfl)) (fun _ _ _ h => h) (Or.inl ⟨by rfl, ?_⟩) hHeld ?_ ?_
        rotate_left
        ·rintro w' ⟨s0, s1, s2, s3, s4, s5, s6, s7⟩
         go_simp
         with_reducible rfl
        rotate_left
        ·simp only [Act.put, List.setIfInBounds_toArray, List.set_cons_zero, List.set_cons_succ, i64_w, i32_w]
         rfl
        refine take_ (i := 9) (N := some 32) (v := ?_) (a' := ?_) (bl 10 12) rfl rfl (take_ofW HT_.out HW_.out (by kernel_rfl)) (fun _ _ _ h => h) (Or.inl ⟨by rfl, ?_⟩) hHeld ?_ ?_
        rotate_left
        ·rintro w' ⟨s0, s1, s2, s3, s4, s5, s6, s7⟩
         go_simp
         with_reducible rfl
        rotate_left
        ·simp only [Act.put, List.setIfInBounds_toArray, List.set_cons_zero, List.set_cons_succ, i64_w, i32_w]
         rfl
        refine one_ (i := 10) (N := some 33) (bl 11 12) rfl rfl (one_of HT_.out (by kernel_rfl)) (by decide) (fun K hK => ?_)
        refine goes_ Try.func27 (by kernel_rfl) rfl #[.agg #[.int .i64 ((rd_T36 l0 x8_1).f1.f0), .int .i64 ((rd_T36 l0 x8_1).f1.f1)], .agg #[.int .i64 ((rd_T36 l0 x8_1).f0.f0), .int .i64 ((rd_T36 l0 x8_1).f0.f1)]] (by rfl) rfl rfl (by (try simp only [List.map_toArray, List.map_cons, List.map_nil]); first | done | rfl | (simp only [List.length_drop, List.length_take]; rfl)) ?_
        with_reducible refine (quernref13_Same.calls ((rd_T36 l0 x8_1).f1.f0) ((rd_T36 l0 x8_1).f1.f1) ((rd_T36 l0 x8_1).f0.f0) ((rd_T36 l0 x8_1).f0.f1) false _ A10.out).mono ?_
        rintro e w16 ⟨rfl, hb⟩
        refine ⟨_, rfl, ?_⟩
        have n0_ := Aside0.mk (Kd.R_below (by (with_reducible repeat (first | apply Kd.R_alloc | apply Kd.R_drewN | apply Kd.R_drew)); exact HO_7.out) hb)
        have n1_ := Aside0.mk (blk_below (g := gb151) (o := .cells #[.int .i64 a1_0, .int .i64 a1_1] 24 (0, 0)) (by (with_reducible repeat (first | refine blk_drewN ?_ _ | refine blk_drew ?_ | refine blk_alloc ?_ _)); exact BK151.out) hb)
        have n2_ := Aside0.mk (below_step (by repeat (first | (with_reducible first | exact HB.out | apply below_alloc | apply pw_below_drewN | apply below_drew1 | refine below_set ?_ GE151.out) | exact HB.out)) hb)
        clear HO_7
        clear BK151
        clear HB
        have HO_7 := n0_
        have BK151 := n1_
        have HB := n2_
        clear n0_ n1_ n2_
        (try clear hb)
        (try clear hb2)
        (try clear hk)
        (try clear hi)
        refine hK.out _ _ ⟨(cellA HB hw153_0), (cellA HB hw153_1), (cellA HB hw153_2), (cellA HB hw153_3), (cellA HB hw154_0), (cellA HB hw154_1), (cellA HB hw154_2), (cellA HB hw154_3)⟩ (fun hHeld => ?_)
        clear hK K
        refine norm_ (a' := ?_) ?_ ?_
        rotate_left
        ·show Act.put _ (some 33) _ = _
         simp only [Act.put, List.setIfInBounds_toArray, List.set_cons_zero, List.set_cons_succ, i64_w, i32_w]
         rfl
        refine pure_ (i := 11) (N := some 34) (v := ?_) (a' := ?_) (bl 12 12) rfl rfl (any_of HT_.out (by kernel_rfl)) (fun _ _ _ h => h) (Or.inl ⟨by rfl, ?_⟩) ?_ ?_
        rotate_left
        ·intro w'
         go_simp
         with_reducible rfl
        rotate_left
        ·simp only [Act.put, List.setIfInBounds_toArray, List.set_cons_zero, List.set_cons_succ, i64_w, i32_w]
         rfl
        refine done_ (done_of HT_.out (by kernel_rfl)) ?_
        have p156 : 0 ≤ (x8_1 : Int) := of_decide_eq_true (by first | (with_reducible assumption) | assumption)
        have q156 : x8_1 < (l0.length : Int) := of_decide_eq_true (by first | (with_reducible assumption) | assumption)
        obtain ⟨ad156, e156, hx156_0, hx156_1, hx156_2, hx156_3⟩ := at_T36 HR0.out x8_1 p156 q156
        obtain rfl : ad153 = ad156 := (by injection e156)
        replace hx156_0 := cellA HB hx156_0
        replace hx156_1 := cellA HB hx156_1
        replace hx156_2 := cellA HB hx156_2
        replace hx156_3 := cellA HB hx156_3
        replace p156 := eq_true p156
        replace q156 := eq_true q156
        try go_wp2_with (first | ((with_reducible refine gate_builtin (b := .append) (xs := #[.tmp 35, .tmp 40]) rfl ?_); at_builtin; refine Kd.R_append k36 (w0 := w) w.heap.size rfl (.tmp 35) (.tmp 40) 22 36 (.agg #[(.int .i64 0), (.int .i64 0), (.int .i64 0), (.int .i64 0)]) 32 rfl Try.underlying22 info36p rfl (by decide) (by omega) u7 x7_1 (⟨(⟨(rd_T36 l0 x8_1).f0.f0, (rd_T36 l0 x8_1).f0.f1⟩ : S24), (⟨(rd_T36 l0 x8_1).f1.f0, (rd_T36 l0 x8_1).f1.f1⟩ : S24)⟩ : S36) [.int .i64 ((rd_T36 l0 x8_1).f0.f0), .int .i64 ((rd_T36 l0 x8_1).f0.f1), .int .i64 ((rd_T36 l0 x8_1).f1.f0), .int .i64 ((rd_T36 l0 x8_1).f1.f1)] (fun _ => True) (fun _ => False) rfl rfl ?aP (fun _ hk => hk.elim) ?aF ?aO ?aB ?aS ?aL ?_; (case aP => exact k36_mkM _ _ _ (⟨(⟨(rd_T36 l0 x8_1).f0.f0, (rd_T36 l0 x8_1).f0.f1⟩ : S24), (⟨(rd_T36 l0 x8_1).f1.f0, (rd_T36 l0 x8_1).f1.f1⟩ : S24)⟩ : S36)); (case aB => exact (by repeat (first | (with_reducible first | exact HB.out | apply below_alloc | apply pw_below_drewN | apply below_drew1 | refine below_set ?_ GE151.out) | exact HB.out))); (case aF => exact (fun _ _ => trivial)); (case aO => exact (by (with_reducible repeat (first | apply Kd.R_alloc | apply Kd.R_drewN | apply Kd.R_drew)); exact HO_7.out)); (case aS => exact (below_size (by repeat (first | (with_reducible first | exact HB.out | apply below_alloc | apply pw_below_drewN | apply below_drew1 | refine below_set ?_ GE151.out) | exact HB.out)))); (case aL => have := LMc14.out; omega); intro v158 w17 ho hb hg hat; rw [← Ny157.out] at ho; have n0_ := Aside0.mk (blk_grown (g := gb151) (o := .cells #[.int .i64 a1_0, .int .i64 a1_1] 24 (0, 0)) (by (with_reducible repeat (first | refine blk_drewN ?_ _ | refine blk_drew ?_ | refine blk_alloc ?_ _)); exact BK151.out) hg (Kd.R_ne HO_7.out BK151.out (by decide))); have n1_ := Aside0.mk (hb); have n2_ := Aside0.mk (ho); clear BK151; clear HB; clear HO_7; have BK151 := n0_; have HB := n1_; have HO159 := n2_; clear n0_ n1_ n2_; clear ho hb hg hat))
        go_roundg k1
        case measure => have := HK1.out; omega
        case rel => exact ⟨(y157), (wrap64 (x8_1 + 1)), (by first | rfl | (simp; done) | (simp [*]; done)), H', ⟨by have := HK1.out; omega⟩, ⟨by (with_reducible repeat (first | apply Kd.R_alloc | apply Kd.R_drewN | apply Kd.R_drew)); exact HO159.out⟩, ⟨by (with_reducible repeat (first | refine blk_drewN ?_ _ | refine blk_drew ?_ | refine blk_alloc ?_ _)); exact BK151.out⟩, ⟨by repeat (first | (with_reducible first | exact HB.out | apply below_alloc | apply pw_below_drewN | apply below_drew1 | refine below_set ?_ GE151.out) | exact HB.out)⟩⟩
       ·rw [if_neg c14] at H
        exact absurd H (by simp)
     ·rw [if_neg c9] at H
      exact absurd H (by simp)
    ·rw [if_neg c8] at H
     have c8b0 : decide (x8_1 < (l0.length : Int)) = false := decide_eq_false c8
     clear c8
     have H' := Aside0.mk H
     clear H
     go_wp2
     go_loopg [7, 9] k1 (fun kq v7 v9 w' => ∃ (x7_2 : List (S36)) (x9_2 : List (S36)), Aside0 (quernref13_Order.l1 kq x7_2 x9_2 a1_0 a1_1 = some (r1, r2)) ∧ Aside0 (kq ≤ k1) ∧ Aside0 (Kd.R k36 36 w' w.heap.size (fun k_ => some k_ ≠ (v9 : Value).ownBlock) v7 x7_2) ∧ Aside0 (Kd.R k36 36 w' w.heap.size (fun k_ => some k_ ≠ (v7 : Value).ownBlock) v9 x9_2) ∧ Aside0 (w'.heap[gb151]? = some (.cells #[.int .i64 a1_0, .int .i64 a1_1] 24 (0, 0))) ∧ Aside0 (Below w.heap.size w w'))
     case atStart => exact ⟨(x7_1), (([] : List (S36))), H', ⟨Nat.le_refl _⟩, ⟨by (with_reducible repeat (first | apply Kd.R_alloc | apply Kd.R_drewN | apply Kd.R_drew)); exact Kd.R_mono HO_7.out (fun _ hk => (by simp [Value.ownBlock]))⟩, ⟨by first | exact Kd.R_nil _ _ _ _ _ | exact Kd.N_nil _ _ _ _ _ | exact Kd.V_nil _ _ _ _ _ | exact Kd.Q_nil _ _ _ _ _ | exact Kd.S_nil _ _ _ _ _⟩, ⟨by (with_reducible repeat (first | refine blk_drewN ?_ _ | refine blk_drew ?_ | refine blk_alloc ?_ _)); exact BK151.out⟩, ⟨by repeat (first | (with_reducible first | exact HB.out | apply below_alloc | apply pw_below_drewN | apply below_drew1 | refine below_set ?_ GE151.out) | exact HB.out)⟩⟩
     case round =>
      clear H'
      try clear c1
      try clear p1
      try clear q1
      try clear hx1
      try clear c2
      try clear p2
      try clear c4
      try clear c4b0
      try clear c4b1
      try clear p6
      try clear c8
      try clear c8b0
      try clear c9
      try clear c9b0
      try clear c11
      try clear c12
      try clear c14
      try clear p15
      try clear q15
      try clear hx15
      try clear hcz6_0
      try clear hcz6_1
      try clear hfz6_0
      try clear hfz6_1
      try clear hx153_0
      try clear hx153_1
      try clear hx153_2
      try clear hx153_3
      try clear hx154_0
      try clear hx154_1
      try clear hx154_2
      try clear hx154_3
      try clear hx156_0
      try clear hx156_1
      try clear hx156_2
      try clear hx156_3
      try clear p153
      try clear p154
      try clear p156
      try clear p2
      try clear q153
      try clear q154
      try clear q156
      obtain ⟨x7_2, x9_2, HA, HK2, HO_7, HO_9, BK151, HB⟩ := hrel
      cases gk with
      | zero => exact absurd HA.out (by simp [quernref13_Order.l1])
      | succ k2 =>
       have H := HA.out
       clear HA
       simp only [quernref13_Order.l1] at H
       by_cases c18 : (x7_2.length : Int) > 0
       ·rw [if_pos c18] at H
        have c18b0 : decide (0 < (x7_2.length : Int)) = true := decide_eq_true c18
        have c18b1 : decide (0 < x7_2.length) = true := decide_eq_true (by omega)
        clear c18
        have H' := Aside0.mk H
        clear H
        obtain ⟨Ao19, co19, eo19⟩ := Kd.R_slice HO_7.out
        subst eo19
        go_wp2
        go_loopg [10] k2 (fun kq v10 w' => ∃ (x10_3 : Int), v10 = .int .i64 x10_3 ∧ Aside0 (quernref13_Order.l2 kq x7_2 x9_2 x10_3 a1_0 a1_1 = some (r1, r2)) ∧ Aside0 (kq ≤ k2) ∧ Aside0 (Kd.R k36 36 w' w.heap.size (fun k_ => some k_ ≠ (u9 : Value).ownBlock) (.slice Ao19 x7_2.length co19) x7_2) ∧ Aside0 (Kd.R k36 36 w' w.heap.size (fun k_ => some k_ ≠ ((.slice Ao19 x7_2.length co19) : Value).ownBlock) u9 x9_2) ∧ Aside0 (w'.heap[gb151]? = some (.cells #[.int .i64 a1_0, .int .i64 a1_1] 24 (0, 0))) ∧ Aside0 (Below w.heap.size w w'))
        case atStart => exact ⟨(0), (by first | rfl | (simp; done) | (simp [*]; done)), H', ⟨Nat.le_refl _⟩, ⟨by (with_reducible repeat (first | apply Kd.R_alloc | apply Kd.R_drewN | apply Kd.R_drew)); exact HO_7.out⟩, ⟨by (with_reducible repeat (first | apply Kd.R_alloc | apply Kd.R_drewN | apply Kd.R_drew)); exact HO_9.out⟩, ⟨by (with_reducible repeat (first | refine blk_drewN ?_ _ | refine blk_drew ?_ | refine blk_alloc ?_ _)); exact BK151.out⟩, ⟨by repeat (first | (with_reducible first | exact HB.out | apply below_alloc | apply pw_below_drewN | apply below_drew1 | refine below_set ?_ GE151.out) | exact HB.out)⟩⟩
        case round =>
         clear H'
         try clear c1
         try clear p1
         try clear q1
         try clear hx1
         try clear c2
         try clear p2
         try clear c4
         try clear c4b0
         try clear c4b1
         try clear p6
         try clear c8
         try clear c8b0
         try clear c9
         try clear c9b0
         try clear c11
         try clear c12
         try clear c14
         try clear p15
         try clear q15
         try clear hx15
         try clear c18
         try clear c18b0
         try clear c18b1
         try clear hcz6_0
         try clear hcz6_1
         try clear hfz6_0
         try clear hfz6_1
         try clear hx153_0
         try clear hx153_1
         try clear hx153_2
         try clear hx153_3
         try clear hx154_0
         try clear hx154_1
         try clear hx154_2
         try clear hx154_3
         try clear hx156_0
         try clear hx156_1
         try clear hx156_2
         try clear hx156_3
         try clear p1
         try clear p15
         try clear p153
         try clear p154
         try clear p156
         try clear p2
         try clear p6
         try clear q1
         try clear q15
         try clear q153
         try clear q154
         try clear q156
         obtain ⟨x10_3, rfl, HA, HK3, HO_7, HO_9, BK151, HB⟩ := hrel
         cases gk with
         | zero => exact absurd HA.out (by simp [quernref13_Order.l2])
         | succ k3 =>
          have H := HA.out
          clear HA
          simp only [quernref13_Order.l2] at H
          by_cases c20 : x10_3 < (x7_2.length : Int)
          ·rw [if_pos c20] at H
           have c20b0 : decide (x10_3 < (x7_2.length : Int)) = true := decide_eq_true c20
           clear c20
           by_cases c21 : 0 ≤ x10_3
           ·rw [if_pos c21] at H
            have c21b0 : decide (0 ≤ x10_3) = true := decide_eq_true c21
            clear c21
            replace H := Option.bind_eq_some_iff.mp H
            obtain ⟨t161, A220, H⟩ := H
            replace H : (if t161 = true then (quernref13_Order.l2 k3 x7_2 x9_2 (wrap64 (x10_3 + 1)) a1_0 a1_1) else (if x10_3 = (x7_2.length : Int) then (if 0 < (x7_2.length : Int) then (if x9_2.length < 4398046511104 then (quernref13_Order.l1 k3 (x7_2.set (0 : Int).toNat (⟨(⟨(rd_T36 x7_2 0).f0.f0, (rd_T36 x7_2 0).f0.f1⟩ : S24), (⟨a1_0, a1_1⟩ : S24)⟩ : S36)) (x9_2 ++ [(⟨(⟨a1_0, a1_1⟩ : S24), (⟨(rd_T36 x7_2 0).f1.f0, (rd_T36 x7_2 0).f1.f1⟩ : S24)⟩ : S36)]) a1_0 a1_1) else (none)) else (none)) else (if x9_2.length < 4398046511104 then (if x10_3 ≤ (x7_2.length : Int) then (if 0 ≤ (wrap64 (x10_3 + 1)) then (if (wrap64 (x10_3 + 1)) ≤ (x7_2.length : Int) then (quernref13_Order.l1 k3 (x7_2.eraseIdx (x10_3 : Int).toNat) (x9_2 ++ [(⟨(⟨(rd_T36 x7_2 x10_3).f0.f0, (rd_T36 x7_2 x10_3).f0.f1⟩ : S24), (⟨(rd_T36 x7_2 x10_3).f1.f0, (rd_T36 x7_2 x10_3).f1.f1⟩ : S24)⟩ : S36)]) a1_0 a1_1) else (none)) else (none)) else (none)) else (none)))) = some (r1, r2) := H
            have A22 := Aside0.mk A220
            clear A220
            by_cases c23 : t161 = true
            ·subst c23
             have H1 : (quernref13_Order.l2 k3 x7_2 x9_2 (wrap64 (x10_3 + 1)) a1_0 a1_1) = some (r1, r2) := by rw [if_pos rfl] at H; exact H
             clear H
             have H := H1
             clear H1
             have H' := Aside0.mk H
             clear H
             have p160 : 0 ≤ (x10_3 : Int) := of_decide_eq_true (by first | (with_reducible assumption) | assumption)
             have q160 : x10_3 < (x7_2.length : Int) := of_decide_eq_true (by first | (with_reducible assumption) | assumption)
             obtain ⟨ad160, e160, hx160_0, hx160_1, hx160_2, hx160_3⟩ := at_T36 (Kd.R_reads' HO_7.out).2.2 x10_3 p160 q160
             cases e160
             replace p160 := eq_true p160
             replace q160 := eq_true q160
             go_wp2_with (first | (go_at_call 28; (with_reducible refine (quernref13_read.calls k3 _ _ x7_2 ((rd_T36 x7_2 x10_3).f0.f0) ((rd_T36 x7_2 x10_3).f0.f1) true _ ?side1 ?side2 A22.out).mono ?_); (case side1 => repeat (first | exact (Kd.R_reads' HO_7.out).2.2 | (with_reducible refine Kd.C_alloc ?_ _) | (with_reducible refine Kd.C_drewN ?_ _) | (with_reducible refine Kd.C_drew ?_))); (case side2 => exact (Kd.R_reads' HO_7.out).2.1); rintro e w24 ⟨rfl, hb⟩; have n0_ := Aside0.mk (Kd.R_below (by (with_reducible repeat (first | apply Kd.R_alloc | apply Kd.R_drewN | apply Kd.R_drew)); exact HO_7.out) hb); have n1_ := Aside0.mk (Kd.R_below (by (with_reducible repeat (first | apply Kd.R_alloc | apply Kd.R_drewN | apply Kd.R_drew)); exact HO_9.out) hb); have n2_ := Aside0.mk (blk_below (g := gb151) (o := .cells #[.int .i64 a1_0, .int .i64 a1_1] 24 (0, 0)) (by (with_reducible repeat (first | refine blk_drewN ?_ _ | refine blk_drew ?_ | refine blk_alloc ?_ _)); exact BK151.out) hb); have n3_ := Aside0.mk (below_step (by repeat (first | (with_reducible first | exact HB.out | apply below_alloc | apply pw_below_drewN | apply below_drew1 | refine below_set ?_ GE151.out) | exact HB.out)) hb); clear HO_7; clear HO_9; clear BK151; clear HB; have HO_7 := n0_; have HO_9 := n1_; have BK151 := n2_; have HB := n3_; clear n0_ n1_ n2_ n3_; (try clear hb); (try clear hb2); (try clear hk); (try clear hi)))
             go_roundg k3
             case measure => have := HK1.out; have := HK2.out; have := HK3.out; omega
             case rel => exact ⟨(wrap64 (x10_3 + 1)), (by first | rfl | (simp; done) | (simp [*]; done)), H', ⟨by have := HK1.out; have := HK2.out; have := HK3.out; omega⟩, ⟨by (with_reducible repeat (first | apply Kd.R_alloc | apply Kd.R_drewN | apply Kd.R_drew)); exact HO_7.out⟩, ⟨by (with_reducible repeat (first | apply Kd.R_alloc | apply Kd.R_drewN | apply Kd.R_drew)); exact HO_9.out⟩, ⟨by (with_reducible repeat (first | refine blk_drewN ?_ _ | refine blk_drew ?_ | refine blk_alloc ?_ _)); exact BK151.out⟩, ⟨by repeat (first | (with_reducible first | exact HB.out | apply below_alloc | apply pw_below_drewN | apply below_drew1 | refine below_set ?_ GE151.out) | exact HB.out)⟩⟩
            ·replace c23 := Bool.eq_false_iff.mpr c23
             subst c23
             have H1 : (if x10_3 = (x7_2.length : Int) then (if 0 < (x7_2.length : Int) then (if x9_2.length < 4398046511104 then (quernref13_Order.l1 k3 (x7_2.set (0 : Int).toNat (⟨(⟨(rd_T36 x7_2 0).f0.f0, (rd_T36 x7_2 0).f0.f1⟩ : S24), (⟨a1_0, a1_1⟩ : S24)⟩ : S36)) (x9_2 ++ [(⟨(⟨a1_0, a1_1⟩ : S24), (⟨(rd_T36 x7_2 0).f1.f0, (rd_T36 x7_2 0).f1.f1⟩ : S24)⟩ : S36)]) a1_0 a1_1) else (none)) else (none)) else (if x9_2.length < 4398046511104 then (if x10_3 ≤ (x7_2.length : Int) then (if 0 ≤ (wrap64 (x10_3 + 1)) then (if (wrap64 (x10_3 + 1)) ≤ (x7_2.length : Int) then (quernref13_Order.l1 k3 (x7_2.eraseIdx (x10_3 : Int).toNat) (x9_2 ++ [(⟨(⟨(rd_T36 x7_2 x10_3).f0.f0, (rd_T36 x7_2 x10_3).f0.f1⟩ : S24), (⟨(rd_T36 x7_2 x10_3).f1.f0, (rd_T36 x7_2 x10_3).f1.f1⟩ : S24)⟩ : S36)]) a1_0 a1_1) else (none)) else (none)) else (none)) else (none))) = some (r1, r2) := by rw [if_neg (show ¬ (false = true) by decide)] at H; exact H
             clear H
             have H := H1
             clear H1
             by_cases c25 : x10_3 = (x7_2.length : Int)
             ·rw [if_pos c25] at H
              have c25b0 : (x10_3 == (x7_2.length : Int)) = true := beq_iff_eq.mpr c25
              have c25b1 : (x10_3 != (x7_2.length : Int)) = false := bne_eq_false_iff_eq.mpr c25
              clear c25
              by_cases c26 : 0 < (x7_2.length : Int)
              ·rw [if_pos c26] at H
               have c26b0 : decide (0 < (x7_2.length : Int)) = true := decide_eq_true c26
               have c26b1 : decide (0 < x7_2.length) = true := decide_eq_true (by omega)
               clear c26
               by_cases c27 : x9_2.length < 4398046511104
               ·rw [if_pos c27] at H
                have LMc27 := Aside0.mk c27
                clear c27
                obtain ⟨y163, hy163⟩ : ∃ y_ : List (S36), y_ = (x9_2 ++ [(⟨(⟨a1_0, a1_1⟩ : S24), (⟨(rd_T36 x7_2 0).f1.f0, (rd_T36 x7_2 0).f1.f1⟩ : S24)⟩ : S36)]) := ⟨_, rfl⟩
                replace H : (quernref13_Order.l1 k3 (x7_2.set (0 : Int).toNat (⟨(⟨(rd_T36 x7_2 0).f0.f0, (rd_T36 x7_2 0).f0.f1⟩ : S24), (⟨a1_0, a1_1⟩ : S24)⟩ : S36)) y163 a1_0 a1_1) = some (r1, r2) := by first | (rw [hy163]; with_reducible exact H) | (have H2_ := (Option.bind_some _ _).symm.trans H; rw [hy163]; with_reducible exact H2_) | (have H2_ := (Option.bind_some _ _).symm.trans H; with_reducible exact H2_) | with_reducible exact H | (rw [hy163]; exact H) | exact H
                have Ny163 := Aside0.mk hy163
                clear hy163
                obtain ⟨y166, hy166⟩ : ∃ y_ : List (S36), y_ = (x7_2.set (0 : Int).toNat (⟨(⟨(rd_T36 x7_2 0).f0.f0, (rd_T36 x7_2 0).f0.f1⟩ : S24), (⟨a1_0, a1_1⟩ : S24)⟩ : S36)) := ⟨_, rfl⟩
                replace H : (quernref13_Order.l1 k3 y166 y163 a1_0 a1_1) = some (r1, r2) := by first | (rw [hy166]; with_reducible exact H) | (have H2_ := (Option.bind_some _ _).symm.trans H; rw [hy166]; with_reducible exact H2_) | (have H2_ := (Option.bind_some _ _).symm.trans H; with_reducible exact H2_) | with_reducible exact H | (rw [hy166]; exact H) | exact H
                have Ny166 := Aside0.mk hy166
                clear hy166
                have H' := Aside0.mk H
                clear H
                have p160 : 0 ≤ (x10_3 : Int) := of_decide_eq_true (by first | (with_reducible assumption) | assumption)
                have q160 : x10_3 < (x7_2.length : Int) := of_decide_eq_true (by first | (with_reducible assumption) | assumption)
                obtain ⟨ad160, e160, hx160_0, hx160_1, hx160_2, hx160_3⟩ := at_T36 (Kd.R_reads' HO_7.out).2.2 x10_3 p160 q160
                cases e160
                replace p160 := eq_true p160
                replace q160 := eq_true q160
                try go_wp2_with (first | (go_at_call 28; (with_reducible refine (quernref13_read.calls k3 _ _ x7_2 ((rd_T36 x7_2 x10_3).f0.f0) ((rd_T36 x7_2 x10_3).f0.f1) false _ ?side1 ?side2 A22.out).mono ?_); (case side1 => repeat (first | exact (Kd.R_reads' HO_7.out).2.2 | (with_reducible refine Kd.C_alloc ?_ _) | (with_reducible refine Kd.C_drewN ?_ _) | (with_reducible refine Kd.C_drew ?_))); (case side2 => exact (Kd.R_reads' HO_7.out).2.1); rintro e w29 ⟨rfl, hb⟩; have n0_ := Aside0.mk (Kd.R_below (by (with_reducible repeat (first | apply Kd.R_alloc | apply Kd.R_drewN | apply Kd.R_drew)); exact HO_7.out) hb); have n1_ := Aside0.mk (Kd.R_below (by (with_reducible repeat (first | apply Kd.R_alloc | apply Kd.R_drewN | apply Kd.R_drew)); exact HO_9.out) hb); have n2_ := Aside0.mk (blk_below (g := gb151) (o := .cells #[.int .i64 a1_0, .int .i64 a1_1] 24 (0, 0)) (by (with_reducible repeat (first | refine blk_drewN ?_ _ | refine blk_drew ?_ | refine blk_alloc ?_ _)); exact BK151.out) hb); have n3_ := Aside0.mk (below_step (by repeat (first | (with_reducible first | exact HB.out | apply below_alloc | apply pw_below_drewN | apply below_drew1 | refine below_set ?_ GE151.out) | exact HB.out)) hb); clear HO_7; clear HO_9; clear BK151; clear HB; have HO_7 := n0_; have HO_9 := n1_; have BK151 := n2_; have HB := n3_; clear n0_ n1_ n2_ n3_; (try clear hb); (try clear hb2); (try clear hk); (try clear hi)))
                have n0_ := Aside0.mk (Kd.R_drew HO_7.out)
                have n1_ := Aside0.mk (Kd.R_drew HO_9.out)
                have n2_ := Aside0.mk (blk_drew BK151.out)
                have n3_ := Aside0.mk (below_drew1 HB.out)
                clear HO_7
                clear HO_9
                clear BK151
                clear HB
                have HO_7 := n0_
                have HO_9 := n1_
                have BK151 := n2_
                have HB := n3_
                clear n0_ n1_ n2_ n3_
                have p162 : 0 ≤ (0 : Int) := (by omega)
                have q162 : 0 < (x7_2.length : Int) := of_decide_eq_true (by first | (with_reducible assumption) | assumption)
                obtain ⟨ad162, e162, hx162_0, hx162_1, hx162_2, hx162_3⟩ := at_T36 (Kd.R_reads' HO_7.out).2.2 0 p162 q162
                obtain rfl : ad160 = ad162 := (by injection e162)
                have qi162 : (0 < x7_2.length) = True := eq_true (by omega)
                (try rw [show ((0 : Int)).toNat = 0 from rfl] at hx162_0)
                (try rw [show 0 * 4 = 0 from rfl] at hx162_0)
                (try rw [Addr.add_zero'] at hx162_0)
                (try rw [show ((0 : Int)).toNat = 0 from rfl] at hx162_1)
                (try rw [show 0 * 4 = 0 from rfl] at hx162_1)
                (try rw [Addr.add_zero'] at hx162_1)
                (try rw [show ((0 : Int)).toNat = 0 from rfl] at hx162_2)
                (try rw [show 0 * 4 = 0 from rfl] at hx162_2)
                (try rw [Addr.add_zero'] at hx162_2)
                (try rw [show ((0 : Int)).toNat = 0 from rfl] at hx162_3)
                (try rw [show 0 * 4 = 0 from rfl] at hx162_3)
                (try rw [Addr.add_zero'] at hx162_3)
                replace p162 := eq_true p162
                replace q162 := eq_true q162
                refine start_ (n := 10) (S := fun w' => w'.cell? ⟨gb151, 0, none⟩ = some (.int .i64 a1_0) ∧ w'.cell? ⟨gb151, 1, none⟩ = some (.int .i64 a1_1) ∧ w'.cell? ad160 = some (.int .i64 ((rd_T36 x7_2 0).f0.f0)) ∧ w'.cell? ⟨ad160.block, ad160.off + 1, none⟩ = some (.int .i64 ((rd_T36 x7_2 0).f0.f1)) ∧ w'.cell? ⟨ad160.block, ad160.off + 2, none⟩ = some (.int .i64 ((rd_T36 x7_2 0).f1.f0)) ∧ w'.cell? ⟨ad160.block, ad160.off + 3, none⟩ = some (.int .i64 ((rd_T36 x7_2 0).f1.f1))) (ds := [7, 8]) (bl 0 10) (by kernel_rfl) rfl rfl ⟨(blk_cell BK151.out 0).trans rfl, (blk_cell BK151.out 1).trans rfl, hx162_0, hx162_1, hx162_2, hx162_3⟩ (fun hHeld => ?_); refine with_tabW quernref13_Order.tab16 quernref13_Order.bits16 (fun HT_ HW_ => ?_)
                generalize w29.drew = w30 at HO_7 HO_9 BK151 HB hx162_0 hx162_1 hx162_2 hx162_3 hHeld ⊢
                refine pure_ (i := 0) (N := some 64) (v := ?_) (a' := ?_) (bl 1 10) rfl rfl (any_of HT_.out (by kernel_rfl)) (fun _ _ _ h => h) (Or.inl ⟨by rfl, ?_⟩) ?_ ?_
                rotate_left
                ·intro w'
                 go_simp
                 with_reducible rfl
                rotate_left
                ·simp only [Act.put, List.setIfInBounds_toArray, List.set_cons_zero, List.set_cons_succ, i64_w, i32_w]
                 rfl
                refine pure_ (i := 2) (N := some 66) (v := ?_) (a' := ?_) #[true, false, true, false, false, false, false, false, false, false] rfl rfl (any_of HT_.out (by kernel_rfl)) (fun _ _ _ h => h) (Or.inl ⟨by rfl, ?_⟩) ?_ ?_
                rotate_left
                ·intro w'
                 go_simp
                 with_reducible rfl
                rotate_left
                ·simp only [Act.put, List.setIfInBounds_toArray, List.set_cons_zero, List.set_cons_succ, i64_w, i32_w]
                 rfl
                refine pure_ (i := 3) (N := some 67) (v := ?_) (a' := ?_) #[true, false, true, true, false, false, false, false, false, false] rfl rfl (any_of HT_.out (by kernel_rfl)) (fun _ _ _ h => h) (Or.inl ⟨by rfl, ?_⟩) ?_ ?_
                rotate_left
                ·intro w'
                 go_simp
                 with_reducible rfl
                rotate_left
                ·simp only [Act.put, List.setIfInBounds_toArray, List.set_cons_zero, List.set_cons_succ, i64_w, i32_w]
                 rfl
                refine pure_ (i := 4) (N := some 68) (v := ?_) (a' := ?_) #[true, false, true, true, true, false, false, false, false, false] rfl rfl (any_of HT_.out (by kernel_rfl)) (fun _ _ _ h => h) (Or.inl ⟨by rfl, ?_⟩) ?_ ?_
                rotate_left
                ·intro w'
                 go_simp
                 with_reducible rfl
                rotate_left
                ·simp only [Act.put, List.setIfInBounds_toArray, List.set_cons_zero, List.set_cons_succ, i64_w, i32_w]
                 rfl
                refine take_ (i := 1) (N := some 65) (v := ?_) (a' := ?_) (bl 5 10) rfl rfl (take_ofW HT_.out HW_.out (by kernel_rfl)) (fun _ _ _ h => h) (Or.inl ⟨by rfl, ?_⟩) hHeld ?_ ?_
                rotate_left
                ·rintro w' ⟨s0, s1, s2, s3, s4, s5⟩
                 go_simp
                 with_reducible rfl
                rotate_left
                ·simp only [Act.put, List.setIfInBounds_toArray, List.set_cons_zero, List.set_cons_succ, i64_w, i32_w]
                 rfl
                refine take_ (i := 5) (N := some 69) (v := ?_) (a' := ?_) (bl 6 10) rfl rfl (take_ofW HT_.out HW_.out (by kernel_rfl)) (fun _ _ _ h => h) (Or.inl ⟨by rfl, ?_⟩) hHeld ?_ ?_
                rotate_left
                ·rintro w' ⟨s0, s1, s2, s3, s4, s5⟩
                 go_simp
                 with_reducible rfl
                rotate_left
                ·simp only [Act.put, List.setIfInBounds_toArray, List.set_cons_zero, List.set_cons_succ, i64_w, i32_w]
                 rfl
                refine pure_ (i := 6) (N := some 70) (v := ?_) (a' := ?_) (bl 7 10) rfl rfl (any_of HT_.out (by kernel_rfl)) (fun _ _ _ h => h) (Or.inl ⟨by rfl, ?_⟩) ?_ ?_
                rotate_left
                ·intro w'
                 go_simp
                 with_reducible rfl
                rotate_left
                ·simp only [Act.put, List.setIfInBounds_toArray, List.set_cons_zero, List.set_cons_succ, i64_w, i32_w]
                 rfl
                refine last_ (i := 7) (N := some 71) (bl 8 10) rfl rfl (one_of HT_.out (by kernel_rfl)) (by decide) (fun K hK => ?_)
                refine value_ (w1 := ?_) (v := ?_) (by rfl) rfl ?_ ?_
                rotate_left 2
                ·go_simp
                 constructor
                 ·rfl
                 ·rfl
                refine hK.out _ _ ?_
                clear hK K
                refine norm_ (a' := ?_) ?_ ?_
                rotate_left
                ·show Act.put _ (some 71) _ = _
                 simp only [Act.put, List.setIfInBounds_toArray, List.set_cons_zero, List.set_cons_succ, i64_w, i32_w]
                 rfl
                refine last_ (i := 8) (N := some 72) (bl 9 10) rfl rfl (one_of HT_.out (by kernel_rfl)) (by decide) (fun K hK => ?_)
                refine Kd.R_append_step k36 (w0 := w) w.heap.size (by rfl) (.tmp 64) (.tmp 71) 22 36 (.agg #[(.int .i64 0), (.int .i64 0), (.int .i64 0), (.int .i64 0)]) 32 rfl Try.underlying22 info36p rfl (by decide) (by omega) u9 x9_2 (⟨(⟨a1_0, a1_1⟩ : S24), (⟨(rd_T36 x7_2 0).f1.f0, (rd_T36 x7_2 0).f1.f1⟩ : S24)⟩ : S36) [.int .i64 a1_0, .int .i64 a1_1, .int .i64 ((rd_T36 x7_2 0).f1.f0), .int .i64 ((rd_T36 x7_2 0).f1.f1)] (fun k_ => some k_ ≠ (.slice (some ad160) x7_2.length co19 : Value).ownBlock) (fun _ => False) rfl rfl ?aP (fun _ hk => hk.elim) ?aF ?aO ?aB ?aS ?aL ?_
                (case aP => exact k36_mkM _ _ _ (⟨(⟨a1_0, a1_1⟩ : S24), (⟨(rd_T36 x7_2 0).f1.f0, (rd_T36 x7_2 0).f1.f1⟩ : S24)⟩ : S36))
                (case aB => exact (by repeat (first | (with_reducible first | exact HB.out | apply below_alloc | apply pw_below_drewN | apply below_drew1 | refine below_set ?_ GE151.out) | exact HB.out)))
                (case aF => exact (fun k_ hk => Kd.fresh' (Kd.R_lt (by (with_reducible repeat (first | apply Kd.R_alloc | apply Kd.R_drewN | apply Kd.R_drew)); exact HO_7.out)) k_ hk))
                (case aO => exact (by (with_reducible repeat (first | apply Kd.R_alloc | apply Kd.R_drewN | apply Kd.R_drew)); exact HO_9.out))
                (case aS => exact (below_size (by repeat (first | (with_reducible first | exact HB.out | apply below_alloc | apply pw_below_drewN | apply below_drew1 | refine below_set ?_ GE151.out) | exact HB.out))))
                (case aL => have := LMc27.out; omega)
                intro v164 w31 ho hb hg hat
                rw [← Ny163.out] at ho
                have n0_ := Aside0.mk (Kd.R_after (ok := (fun _ => True)) (by (with_reducible repeat (first | apply Kd.R_alloc | apply Kd.R_drewN | apply Kd.R_drew)); exact Kd.R_mono HO_7.out (fun _ hk => ⟨trivial, hk⟩)) hg hat)
                have n1_ := Aside0.mk (blk_grown (g := gb151) (o := .cells #[.int .i64 a1_0, .int .i64 a1_1] 24 (0, 0)) (by (with_reducible repeat (first | refine blk_drewN ?_ _ | refine blk_drew ?_ | refine blk_alloc ?_ _)); exact BK151.out) hg (Kd.R_ne HO_9.out BK151.out (by decide)))
                have n2_ := Aside0.mk (hb)
                have n3_ := Aside0.mk (ho)
                clear HO_7
                clear BK151
                clear HB
                clear HO_9
                have HO_7 := n0_
                have BK151 := n1_
                have HB := n2_
                have HO165 := n3_
                clear n0_ n1_ n2_ n3_
                clear ho hb hg hat
                refine hK.out _ _ ?_
                clear hK K
                refine norm_ (a' := ?_) ?_ ?_
                rotate_left
                ·show Act.put _ (some 72) _ = _
                 simp only [Act.put, List.setIfInBounds_toArray, List.set_cons_zero, List.set_cons_succ, i64_w, i32_w]
                 rfl
                refine pure_ (i := 9) (N := some 9) (v := ?_) (a' := ?_) (bl 10 10) rfl rfl (any_of HT_.out (by kernel_rfl)) (fun _ _ _ h => h) (Or.inl ⟨by rfl, ?_⟩) ?_ ?_
                rotate_left
                ·intro w'
                 go_simp
                 with_reducible rfl
                rotate_left
                ·simp only [Act.put, List.setIfInBounds_toArray, List.set_cons_zero, List.set_cons_succ, i64_w, i32_w]
                 rfl
                refine done_ (done_of HT_.out (by kernel_rfl)) ?_
                have hcz32_0 : w31.cell? ⟨gb151, 0, none⟩ = some (.int .i64 a1_0) := (blk_cell BK151.out 0).trans rfl
                have hcz32_1 : w31.cell? ⟨gb151, 1, none⟩ = some (.int .i64 a1_1) := (blk_cell BK151.out 1).trans rfl
                have hfz32_0 := blk_frozen BK151.out 0
                have hfz32_1 := blk_frozen BK151.out 1
                have p28 : 0 ≤ (0 : Int) := (by omega)
                have q28 : (0 : Int) < ((x7_2.length : Int) : Int) := of_decide_eq_true (by first | (with_reducible assumption) | assumption)
                have qi28 : (0 < x7_2.length) = True := eq_true (by omega)
                obtain ⟨go28, co28, eo28, gb28, gl28, cl28, HG28⟩ := Kd.R_form HO_7.out (by omega)
                (first | cases eo28 | (injection eo28 with ea_ en_ ec_; (first | subst ea_ | (injection ea_ with ea_; subst ea_)); subst ec_; clear en_))
                have GB28 := Aside0.mk gb28
                have GG28 := Aside0.mk HG28
                clear gb28 gl28 HG28
                (first | simp only [add_plain] at hx160_0 | skip)
                (first | simp only [add_plain] at hx160_1 | skip)
                (first | simp only [add_plain] at hx160_2 | skip)
                (first | simp only [add_plain] at hx160_3 | skip)
                (first | simp only [add_plain] at hx162_0 | skip)
                (first | simp only [add_plain] at hx162_1 | skip)
                (first | simp only [add_plain] at hx162_2 | skip)
                (first | simp only [add_plain] at hx162_3 | skip)
                obtain ⟨ce28, hcl28, hM28, hcc28, hfr28⟩ := Kd.R_elem HO_7.out z36 (0 : Int) p28 q28
                obtain rfl := k36_openM hM28
                have hx28_0 : w31.cell? ⟨go28, (0 : Int).toNat * 4, none⟩ = some (.int .i64 ((rd_T36 x7_2 0).f0.f0)) := hcc28 0 _ rfl
                have hx28_1 : w31.cell? ⟨go28, (0 : Int).toNat * 4 + 1, none⟩ = some (.int .i64 ((rd_T36 x7_2 0).f0.f1)) := hcc28 1 _ rfl
                have hx28_2 : w31.cell? ⟨go28, (0 : Int).toNat * 4 + 2, none⟩ = some (.int .i64 ((rd_T36 x7_2 0).f1.f0)) := hcc28 2 _ rfl
                have hx28_3 : w31.cell? ⟨go28, (0 : Int).toNat * 4 + 3, none⟩ = some (.int .i64 ((rd_T36 x7_2 0).f1.f1)) := hcc28 3 _ rfl
                have hf28_0 : w31.frozen? ⟨go28, (0 : Int).toNat * 4, none⟩ = false := hfr28 0
                have hf28_1 : w31.frozen? ⟨go28, (0 : Int).toNat * 4 + 1, none⟩ = false := hfr28 1
                have hf28_2 : w31.frozen? ⟨go28, (0 : Int).toNat * 4 + 2, none⟩ = false := hfr28 2
                have hf28_3 : w31.frozen? ⟨go28, (0 : Int).toNat * 4 + 3, none⟩ = false := hfr28 3
                clear hcl28 hcc28 hfr28 hM28
                (try rw [show ((0 : Int)).toNat = 0 from rfl] at hx28_0)
                (try simp only [Nat.reduceMul, Nat.zero_mul, Nat.zero_add, Nat.reduceAdd] at hx28_0)
                (try rw [show ((0 : Int)).toNat = 0 from rfl] at hf28_0)
                (try simp only [Nat.reduceMul, Nat.zero_mul, Nat.zero_add, Nat.reduceAdd] at hf28_0)
                (try rw [show ((0 : Int)).toNat = 0 from rfl] at hx28_1)
                (try simp only [Nat.reduceMul, Nat.zero_mul, Nat.zero_add, Nat.reduceAdd] at hx28_1)
                (try rw [show ((0 : Int)).toNat = 0 from rfl] at hf28_1)
                (try simp only [Nat.reduceMul, Nat.zero_mul, Nat.zero_add, Nat.reduceAdd] at hf28_1)
                (try rw [show ((0 : Int)).toNat = 0 from rfl] at hx28_2)
                (try simp only [Nat.reduceMul, Nat.zero_mul, Nat.zero_add, Nat.reduceAdd] at hx28_2)
                (try rw [show ((0 : Int)).toNat = 0 from rfl] at hf28_2)
                (try simp only [Nat.reduceMul, Nat.zero_mul, Nat.zero_add, Nat.reduceAdd] at hf28_2)
                (try rw [show ((0 : Int)).toNat = 0 from rfl] at hx28_3)
                (try simp only [Nat.reduceMul, Nat.zero_mul, Nat.zero_add, Nat.reduceAdd] at hx28_3)
                (try rw [show ((0 : Int)).toNat = 0 from rfl] at hf28_3)
                (try simp only [Nat.reduceMul, Nat.zero_mul, Nat.zero_add, Nat.reduceAdd] at hf28_3)
                replace p28 := eq_true p28
                replace q28 := eq_true q28
                have n_ := Aside0.mk (Kd.R_mono (ok' := (fun k_ => some k_ ≠ (v164 : Value).ownBlock)) HO_7.out (fun k_ hk => hk.2))
                clear HO_7
                have HO_7 := n_
                clear n_
                have HX33 := Aside0.mk (show Kd.R k36 36 w31 w.heap.size (fun k_ => some k_ ≠ (v164 : Value).ownBlock) (.slice (some ⟨go28, 0, none⟩) x7_2.length co19) x7_2 from (by (with_reducible repeat (first | apply Kd.R_alloc | apply Kd.R_drewN | apply Kd.R_drew)); exact HO_7.out))
                obtain ⟨ce33, hcl33, hM33, hcc33, hfr33⟩ := Kd.R_elem HX33.out z36 (0 : Int) (by omega) (by have h_ : (0 : Int) < ((x7_2.length : Int) : Int) := of_decide_eq_true (by first | (with_reducible assumption) | assumption); first | exact h_ | (have e_ := (Kd.R_reads' HO_7.out).1; omega) | simpa using h_)
                obtain rfl := k36_openM hM33
                have HP33 := Kd.R_seg HX33.out (0 : Int) (by omega) (by have h_ : (0 : Int) < ((x7_2.length : Int) : Int) := of_decide_eq_true (by first | (with_reducible assumption) | assumption); first | exact h_ | (have e_ := (Kd.R_reads' HO_7.out).1; omega) | simpa using h_) (seg := [.int .i64 a1_0, .int .i64 a1_1]) (j := 2) hcl33 hcc33 (show 4 ≤ 4 from by decide) (x' := (⟨(⟨(rd_T36 x7_2 0).f0.f0, (rd_T36 x7_2 0).f0.f1⟩ : S24), (⟨a1_0, a1_1⟩ : S24)⟩ : S36)) (k36_mkM _ _ _ (⟨(⟨(rd_T36 x7_2 0).f0.f0, (rd_T36 x7_2 0).f0.f1⟩ : S24), (⟨a1_0, a1_1⟩ : S24)⟩ : S36) ) (fun _ hk => hk)
                have hx33_2 := hcc33 2 _ rfl
                (try simp only [show (k36).sz = 4 from rfl, Nat.mul_one, Nat.add_zero] at hx33_2)
                (try rw [show ((0 : Int)).toNat = 0 from rfl] at hx33_2)
                (try simp only [Nat.reduceMul, Nat.zero_mul, Nat.zero_add, Nat.reduceAdd] at hx33_2)
                have hf33_2 := hfr33 2
                (try simp only [show (k36).sz = 4 from rfl, Nat.mul_one, Nat.add_zero] at hf33_2)
                (try rw [show ((0 : Int)).toNat = 0 from rfl] at hf33_2)
                (try simp only [Nat.reduceMul, Nat.zero_mul, Nat.zero_add, Nat.reduceAdd] at hf33_2)
                have hx33_3 := hcc33 3 _ rfl
                (try simp only [show (k36).sz = 4 from rfl, Nat.mul_one, Nat.add_zero] at hx33_3)
                (try rw [show ((0 : Int)).toNat = 0 from rfl] at hx33_3)
                (try simp only [Nat.reduceMul, Nat.zero_mul, Nat.zero_add, Nat.reduceAdd] at hx33_3)
                have hf33_3 := hfr33 3
                (try simp only [show (k36).sz = 4 from rfl, Nat.mul_one, Nat.add_zero] at hf33_3)
                (try rw [show ((0 : Int)).toNat = 0 from rfl] at hf33_3)
                (try simp only [Nat.reduceMul, Nat.zero_mul, Nat.zero_add, Nat.reduceAdd] at hf33_3)
                clear hcl33 hcc33 hfr33 hM33
                try go_wp2_with (first | ((with_reducible refine gate_store (t := 24) (p := 76) rfl ?_); refine store_event (t := 24) (p := 76) (v := ?vo_w34) (w1 := ((w31.setCell ⟨go28, 2, none⟩ (.int .i64 a1_0)).setCell ⟨go28, 3, none⟩ (.int .i64 a1_1))) ?hg ?ho ?hn ?hr ?_; (case ho => rfl); (case hg => rfl); (case hn => rfl); (case hr => first | (go_simp; done) | (go_simp; rfl)); intro w34 hw; have hg : w31.grownBy w34 (some go28) := (by rw [hw]; exact HP33.2); have hp_ : Kd.R k36 36 w34 w.heap.size (fun k_ => some k_ ≠ (v164 : Value).ownBlock) (.slice (some ⟨go28, 0, none⟩) x7_2.length co19) y166 := (by rw [hw, Ny166.out]; exact HP33.1); clear HP33; have n0_ := Aside0.mk (hp_); have n1_ := Aside0.mk (blk_grown (g := gb151) (o := .cells #[.int .i64 a1_0, .int .i64 a1_1] 24 (0, 0)) (by (with_reducible repeat (first | refine blk_drewN ?_ _ | refine blk_drew ?_ | refine blk_alloc ?_ _)); exact BK151.out) hg (Kd.R_ne HO_7.out BK151.out (by decide))); have n2_ := Aside0.mk (Kd.R_after (v := (.slice (some ⟨go28, 0, none⟩) x7_2.length co19)) (v1 := (.slice (some ⟨go28, 0, none⟩) x7_2.length co19)) (ok := (fun _ => True)) (by (with_reducible repeat (first | apply Kd.R_alloc | apply Kd.R_drewN | apply Kd.R_drew)); exact Kd.R_mono HO165.out (fun _ hk => ⟨trivial, hk⟩)) hg (.inl rfl)); have n3_ := Aside0.mk ((by rw [hw]; exact below_set (below_set (HB.out) GB28.out) GB28.out : Below w.heap.size w w34)); clear HO_7; clear BK151; clear HO165; clear HB; have HO_7 := n0_; have BK151 := n1_; have HO165 := n2_; have HB := n3_; clear n0_ n1_ n2_ n3_; clear hg hw hp_))
                go_roundg k3
                case measure => have := HK1.out; have := HK2.out; have := HK3.out; omega
                case rel => exact ⟨(y166), (y163), H', ⟨by have := HK1.out; have := HK2.out; have := HK3.out; omega⟩, ⟨by (with_reducible repeat (first | apply Kd.R_alloc | apply Kd.R_drewN | apply Kd.R_drew)); exact HO_7.out⟩, ⟨by (with_reducible repeat (first | apply Kd.R_alloc | apply Kd.R_drewN | apply Kd.R_drew)); exact Kd.R_mono HO165.out (fun _ hk => hk.2)⟩, ⟨by (with_reducible repeat (first | refine blk_drewN ?_ _ | refine blk_drew ?_ | refine blk_alloc ?_ _)); exact BK151.out⟩, ⟨by repeat (first | (with_reducible first | exact HB.out | apply below_alloc | apply pw_below_drewN | apply below_drew1 | refine below_set ?_ GE151.out) | exact HB.out)⟩⟩
               ·rw [if_neg c27] at H
                exact absurd H (by simp)
              ·rw [if_neg c26] at H
               exact absurd H (by simp)
             ·rw [if_neg c25] at H
              have c25b0 : (x10_3 == (x7_2.length : Int)) = false := beq_eq_false_iff_ne.mpr c25
              have c25b1 : (x10_3 != (x7_2.length : Int)) = true := bne_iff_ne.mpr c25
              by_cases c35 : x9_2.length < 4398046511104
              ·rw [if_pos c35] at H
               have LMc35 := Aside0.mk c35
               clear c35
               obtain ⟨y168, hy168⟩ : ∃ y_ : List (S36), y_ = (x9_2 ++ [(⟨(⟨(rd_T36 x7_2 x10_3).f0.f0, (rd_T36 x7_2 x10_3).f0.f1⟩ : S24), (⟨(rd_T36 x7_2 x10_3).f1.f0, (rd_T36 x7_2 x10_3).f1.f1⟩ : S24)⟩ : S36)]) := ⟨_, rfl⟩
               replace H : (if x10_3 ≤ (x7_2.length : Int) then (if 0 ≤ (wrap64 (x10_3 + 1)) then (if (wrap64 (x10_3 + 1)) ≤ (x7_2.length : Int) then (quernref13_Order.l1 k3 (x7_2.eraseIdx (x10_3 : Int).toNat) y168 a1_0 a1_1) else (none)) else (none)) else (none)) = some (r1, r2) := by first | (rw [hy168]; with_reducible exact H) | (have H2_ := (Option.bind_some _ _).symm.trans H; rw [hy168]; with_reducible exact H2_) | (have H2_ := (Option.bind_some _ _).symm.trans H; with_reducible exact H2_) | with_reducible exact H | (rw [hy168]; exact H) | exact H
               have Ny168 := Aside0.mk hy168
               clear hy168
               have c36b0 := eq_true (of_decide_eq_true (by first | (with_reducible assumption) | assumption) : 0 ≤ x10_3)
               by_cases c37 : x10_3 ≤ (x7_2.length : Int)
               ·rw [if_pos c37] at H
                have c37b0 := eq_true c37
                have c37b1 : decide (x10_3 ≤ (x7_2.length : Int)) = true := decide_eq_true c37
                clear c37
                obtain ⟨y171, hy171⟩ : ∃ y_ : List (S36), y_ = (x7_2.take (x10_3 : Int).toNat) := ⟨_, rfl⟩
                replace H : (if 0 ≤ (wrap64 (x10_3 + 1)) then (if (wrap64 (x10_3 + 1)) ≤ (x7_2.length : Int) then (quernref13_Order.l1 k3 (x7_2.eraseIdx (x10_3 : Int).toNat) y168 a1_0 a1_1) else (none)) else (none)) = some (r1, r2) := by first | (rw [hy171]; with_reducible exact H) | (have H2_ := (Option.bind_some _ _).symm.trans H; rw [hy171]; with_reducible exact H2_) | (have H2_ := (Option.bind_some _ _).symm.trans H; with_reducible exact H2_) | with_reducible exact H | (rw [hy171]; exact H) | exact H
                have Ny171 := Aside0.mk hy171
                clear hy171
                obtain ⟨ji38, hji38⟩ : ∃ j_ : Int, (wrap64 (x10_3 + 1)) = j_ := ⟨_, rfl⟩
                replace H : (if 0 ≤ (ji38) then (if (ji38) ≤ (x7_2.length : Int) then (quernref13_Order.l1 k3 (x7_2.eraseIdx (x10_3 : Int).toNat) y168 a1_0 a1_1) else (none)) else (none)) = some (r1, r2) := by first | (rw [hji38] at H; exact H) | (simp only [hji38] at H ⊢; exact H)
                (try rw [hji38] at A22)
                have hji38w : (IntKind.i64.wrap (x10_3 + 1)) = ji38 := (i64_w _).trans hji38
                by_cases c39 : 0 ≤ (ji38)
                ·rw [if_pos c39] at H
                 have c39b0 := eq_true c39
                 have c39b1 : decide (0 ≤ (ji38)) = true := decide_eq_true c39
                 clear c39
                 by_cases c40 : (ji38) ≤ (x7_2.length : Int)
                 ·rw [if_pos c40] at H
                  have c40b0 := eq_true c40
                  have c40b1 : decide ((ji38) ≤ (x7_2.length : Int)) = true := decide_eq_true c40
                  clear c40
                  obtain ⟨y175, hy175⟩ : ∃ y_ : List (S36), y_ = (x7_2.drop ((ji38) : Int).toNat) := ⟨_, rfl⟩
                  replace H : (quernref13_Order.l1 k3 (x7_2.eraseIdx (x10_3 : Int).toNat) y168 a1_0 a1_1) = some (r1, r2) := by first | (rw [hy175]; with_reducible exact H) | (have H2_ := (Option.bind_some _ _).symm.trans H; rw [hy175]; with_reducible exact H2_) | (have H2_ := (Option.bind_some _ _).symm.trans H; with_reducible exact H2_) | with_reducible exact H | (rw [hy175]; exact H) | exact H
                  have Ny175 := Aside0.mk hy175
                  clear hy175
                  obtain ⟨y179, hy179⟩ : ∃ y_ : List (S36), y_ = (x7_2.eraseIdx (x10_3 : Int).toNat) := ⟨_, rfl⟩
                  replace H : (quernref13_Order.l1 k3 y179 y168 a1_0 a1_1) = some (r1, r2) := by first | (rw [hy179]; with_reducible exact H) | (have H2_ := (Option.bind_some _ _).symm.trans H; rw [hy179]; with_reducible exact H2_) | (have H2_ := (Option.bind_some _ _).symm.trans H; with_reducible exact H2_) | with_reducible exact H | (rw [hy179]; exact H) | exact H
                  have Ny179 := Aside0.mk hy179
                  clear hy179
                  have H' := Aside0.mk H
                  clear H
                  have p160 : 0 ≤ (x10_3 : Int) := of_decide_eq_true (by first | (with_reducible assumption) | assumption)
                  have q160 : x10_3 < (x7_2.length : Int) := of_decide_eq_true (by first | (with_reducible assumption) | assumption)
                  obtain ⟨ad160, e160, hx160_0, hx160_1, hx160_2, hx160_3⟩ := at_T36 (Kd.R_reads' HO_7.out).2.2 x10_3 p160 q160
                  cases e160
                  replace p160 := eq_true p160
                  replace q160 := eq_true q160
                  try go_wp2_with (first | (go_at_call 28; (with_reducible refine (quernref13_read.calls k3 _ _ x7_2 ((rd_T36 x7_2 x10_3).f0.f0) ((rd_T36 x7_2 x10_3).f0.f1) false _ ?side1 ?side2 A22.out).mono ?_); (case side1 => repeat (first | exact (Kd.R_reads' HO_7.out).2.2 | (with_reducible refine Kd.C_alloc ?_ _) | (with_reducible refine Kd.C_drewN ?_ _) | (with_reducible refine Kd.C_drew ?_))); (case side2 => exact (Kd.R_reads' HO_7.out).2.1); rintro e w41 ⟨rfl, hb⟩; have n0_ := Aside0.mk (Kd.R_below (by (with_reducible repeat (first | apply Kd.R_alloc | apply Kd.R_drewN | apply Kd.R_drew)); exact HO_7.out) hb); have n1_ := Aside0.mk (Kd.R_below (by (with_reducible repeat (first | apply Kd.R_alloc | apply Kd.R_drewN | apply Kd.R_drew)); exact HO_9.out) hb); have n2_ := Aside0.mk (blk_below (g := gb151) (o := .cells #[.int .i64 a1_0, .int .i64 a1_1] 24 (0, 0)) (by (with_reducible repeat (first | refine blk_drewN ?_ _ | refine blk_drew ?_ | refine blk_alloc ?_ _)); exact BK151.out) hb); have n3_ := Aside0.mk (below_step (by repeat (first | (with_reducible first | exact HB.out | apply below_alloc | apply pw_below_drewN | apply below_drew1 | refine below_set ?_ GE151.out) | exact HB.out)) hb); clear HO_7; clear HO_9; clear BK151; clear HB; have HO_7 := n0_; have HO_9 := n1_; have BK151 := n2_; have HB := n3_; clear n0_ n1_ n2_ n3_; (try clear hb); (try clear hb2); (try clear hk); (try clear hi); have p167 : 0 ≤ (x10_3 : Int) := of_decide_eq_true (by first | (with_reducible assumption) | assumption); have q167 : x10_3 < (x7_2.length : Int) := of_decide_eq_true (by first | (with_reducible assumption) | assumption); obtain ⟨ad167, e167, hx167_0, hx167_1, hx167_2, hx167_3⟩ := at_T36 (Kd.R_reads' HO_7.out).2.2 x10_3 p167 q167; obtain rfl : ad160 = ad167 := (by injection e167); replace p167 := eq_true p167; replace q167 := eq_true q167) | ((with_reducible refine gate_builtin (b := .append) (xs := #[.tmp 77, .tmp 82]) rfl ?_); at_builtin; refine Kd.R_append k36 (w0 := w) w.heap.size rfl (.tmp 77) (.tmp 82) 22 36 (.agg #[(.int .i64 0), (.int .i64 0), (.int .i64 0), (.int .i64 0)]) 32 rfl Try.underlying22 info36p rfl (by decide) (by omega) u9 x9_2 (⟨(⟨(rd_T36 x7_2 x10_3).f0.f0, (rd_T36 x7_2 x10_3).f0.f1⟩ : S24), (⟨(rd_T36 x7_2 x10_3).f1.f0, (rd_T36 x7_2 x10_3).f1.f1⟩ : S24)⟩ : S36) [.int .i64 ((rd_T36 x7_2 x10_3).f0.f0), .int .i64 ((rd_T36 x7_2 x10_3).f0.f1), .int .i64 ((rd_T36 x7_2 x10_3).f1.f0), .int .i64 ((rd_T36 x7_2 x10_3).f1.f1)] (fun k_ => some k_ ≠ (.slice (some ad160) x7_2.length co19 : Value).ownBlock) (fun _ => False) rfl rfl ?aP (fun _ hk => hk.elim) ?aF ?aO ?aB ?aS ?aL ?_; (case aP => exact k36_mkM _ _ _ (⟨(⟨(rd_T36 x7_2 x10_3).f0.f0, (rd_T36 x7_2 x10_3).f0.f1⟩ : S24), (⟨(rd_T36 x7_2 x10_3).f1.f0, (rd_T36 x7_2 x10_3).f1.f1⟩ : S24)⟩ : S36)); (case aB => exact (by repeat (first | (with_reducible first | exact HB.out | apply below_alloc | apply pw_below_drewN | apply below_drew1 | refine below_set ?_ GE151.out) | exact HB.out))); (case aF => exact (fun k_ hk => Kd.fresh' (Kd.R_lt (by (with_reducible repeat (first | apply Kd.R_alloc | apply Kd.R_drewN | apply Kd.R_drew)); exact HO_7.out)) k_ hk)); (case aO => exact (by (with_reducible repeat (first | apply Kd.R_alloc | apply Kd.R_drewN | apply Kd.R_drew)); exact HO_9.out)); (case aS => exact (below_size (by repeat (first | (with_reducible first | exact HB.out | apply below_alloc | apply pw_below_drewN | apply below_drew1 | refine below_set ?_ GE151.out) | exact HB.out)))); (case aL => have := LMc35.out; omega); intro v169 w42 ho hb hg hat; rw [← Ny168.out] at ho; have n0_ := Aside0.mk (Kd.R_after (ok := (fun _ => True)) (by (with_reducible repeat (first | apply Kd.R_alloc | apply Kd.R_drewN | apply Kd.R_drew)); exact Kd.R_mono HO_7.out (fun _ hk => ⟨trivial, hk⟩)) hg hat); have n1_ := Aside0.mk (blk_grown (g := gb151) (o := .cells #[.int .i64 a1_0, .int .i64 a1_1] 24 (0, 0)) (by (with_reducible repeat (first | refine blk_drewN ?_ _ | refine blk_drew ?_ | refine blk_alloc ?_ _)); exact BK151.out) hg (Kd.R_ne HO_9.out BK151.out (by decide))); have n2_ := Aside0.mk (hb); have n3_ := Aside0.mk (ho); clear HO_7; clear BK151; clear HB; clear HO_9; have HO_7 := n0_; have BK151 := n1_; have HB := n2_; have HO170 := n3_; clear n0_ n1_ n2_ n3_; clear ho hb hg hat))
                  have n0_ := Aside0.mk (Kd.R_drew HO_7.out)
                  have n1_ := Aside0.mk (Kd.R_drew HO170.out)
                  have n2_ := Aside0.mk (blk_drew BK151.out)
                  have n3_ := Aside0.mk (below_drew1 HB.out)
                  clear HO_7
                  clear HO170
                  clear BK151
                  clear HB
                  have HO_7 := n0_
                  have HO170 := n1_
                  have BK151 := n2_
                  have HB := n3_
                  clear n0_ n1_ n2_ n3_
                  have q44 : (x10_3 : Int) ≤ ((x7_2.length : Int) : Int) := of_decide_eq_true (by first | (with_reducible assumption) | assumption)
                  obtain ⟨i044, hi044, _, hsz44, _⟩ := info_parts info36p
                  have hroom44 : x7_2.length ≤ co19 := (Kd.R_reads' HO_7.out).2.1
                  have hC44 : Kd.C k36 _ (some ad160) x7_2.length x7_2 := (Kd.R_reads' HO_7.out).2.2
                  have hcut44 := cut_to (P := Try.prog) 22 36 .i64 Try.underlying22 hi044 (some ad160) x7_2.length co19 x10_3 (of_decide_eq_true (by first | (with_reducible assumption) | assumption)) q44 hroom44
                  have hr44 := Kd.C_take (m := (x10_3 : Int).toNat) hC44 (by omega)
                  have hy44 : y171.length = (x10_3 : Int).toNat := (by rw [Ny171.out, List.length_take]; omega)
                  rw [← Ny171.out] at hr44
                  rw [← hy44] at hcut44
                  have HR174 := Aside0.mk hr44
                  have HC174 := Aside0.mk (show y171.length ≤ co19 from by omega)
                  clear hr44 hC44 hroom44 hi044 hsz44
                  have KY44 := Aside0.mk hy44
                  clear hy44
                  have KL44 := Aside0.mk (show (x10_3 : Int).toNat ≤ x7_2.length from by omega)
                  replace q44 := eq_true q44
                  have q45 : ((ji38) : Int) ≤ ((x7_2.length : Int) : Int) := of_decide_eq_true (by first | (with_reducible assumption) | assumption)
                  obtain ⟨i045, hi045, _, hsz45, _⟩ := info_parts info36p
                  have hroom45 : x7_2.length ≤ co19 := (Kd.R_reads' HO_7.out).2.1
                  have hC45 : Kd.C k36 _ (some ad160) x7_2.length x7_2 := (Kd.R_reads' HO_7.out).2.2
                  have q045 : (0 : Int) ≤ ((ji38) : Int) := of_decide_eq_true (by first | (with_reducible assumption) | assumption)
                  have hcut45 := cut_from (P := Try.prog) 22 36 .i64 Try.underlying22 hi045 4 hsz45 (some ad160) x7_2.length co19 (ji38) q045 q45
                  have hr45 := Kd.C_drop (m := ((ji38) : Int).toNat) (c := co19) hC45 (by omega) hroom45
                  obtain ⟨A45, hA45⟩ : ∃ A1, A1 = (if co19 = ((ji38) : Int).toNat then (some ad160) else ((some ad160) : Option Addr).map (·.add (((ji38) : Int).toNat * 4))) := ⟨_, rfl⟩
                  obtain ⟨c45, hc45⟩ : ∃ c1, c1 = co19 - ((ji38) : Int).toNat := ⟨_, rfl⟩
                  have hy45 : y175.length = x7_2.length - ((ji38) : Int).toNat := (by rw [Ny175.out, List.length_drop] <;> omega)
                  rw [show (x7_2).drop ((ji38) : Int).toNat = y175 from Ny175.out.symm] at hr45
                  replace hr45 : Kd.C k36 _ A45 y175.length y175 := (by rw [hA45]; exact hr45)
                  rw [← hy45, ← hA45, ← hc45] at hcut45
                  have HR178 := Aside0.mk hr45
                  have HC178 := Aside0.mk (show y175.length ≤ c45 from by rw [hy45, hc45]; exact Nat.sub_le_sub_right hroom45 _)
                  clear hr45 hC45 hroom45 hi045 hsz45 hc45
                  have KY45 := Aside0.mk hy45
                  have KA45 := Aside0.mk hA45
                  clear hy45 hA45
                  have KL45 := Aside0.mk (show ((ji38) : Int).toNat ≤ x7_2.length from by omega)
                  replace q45 := eq_true q45
                  have n_ := Aside0.mk (Kd.R_mono (ok' := (fun k_ => some k_ ≠ (v169 : Value).ownBlock)) HO_7.out (fun k_ hk => hk.2))
                  clear HO_7
                  have HO_7 := n_
                  clear n_
                  obtain ⟨go47, co47, eo47, gb47, gl47, cl47, HG47⟩ := Kd.R_form HO_7.out (by have hj_ : 0 ≤ (x10_3 : Int) := of_decide_eq_true (by first | (with_reducible assumption) | assumption); have hl_ : (ji38 : Int) ≤ (x7_2.length : Int) := of_decide_eq_true (by first | (with_reducible assumption) | assumption); have hh_ : (x10_3 : Int) ≤ (x7_2.length : Int) := of_decide_eq_true (by first | (with_reducible assumption) | assumption); rw [← hji38] at hl_; unfold wrap64 at hl_; omega)
                  (first | cases eo47 | (injection eo47 with ea_ en_ ec_; (first | subst ea_ | (injection ea_ with ea_; subst ea_)); subst ec_; clear en_))
                  have GB47 := Aside0.mk gb47
                  have GG47 := Aside0.mk HG47
                  clear gb47 gl47 HG47
                  (first | simp only [add_plain] at hx160_0 | skip)
                  (first | simp only [add_plain] at hx160_1 | skip)
                  (first | simp only [add_plain] at hx160_2 | skip)
                  (first | simp only [add_plain] at hx160_3 | skip)
                  (first | simp only [add_plain] at hx167_0 | skip)
                  (first | simp only [add_plain] at hx167_1 | skip)
                  (first | simp only [add_plain] at hx167_2 | skip)
                  (first | simp only [add_plain] at hx167_3 | skip)
                  refine start_ (n := 9) (S := fun w' => True) (ds := []) (bl 0 9) (by kernel_rfl) rfl rfl trivial (fun hHeld => ?_); refine with_tabW quernref13_Order.tab19 quernref13_Order.bits19 (fun HT_ HW_ => ?_)
                  generalize w42.drew = w43 at HO_7 HO170 BK151 HB GG47 HR174 HR178 hx160_0 hx160_1 hx160_2 hx160_3 hx167_0 hx167_1 hx167_2 hx167_3 hHeld ⊢
                  refine pure_ (i := 0) (N := some 84) (v := ?_) (a' := ?_) (bl 1 9) rfl rfl (any_of HT_.out (by kernel_rfl)) (fun _ _ _ h => h) (Or.inl ⟨by rfl, ?_⟩) ?_ ?_
                  rotate_left
                  ·intro w'
                   go_simp
                   with_reducible rfl
                  rotate_left
                  ·simp only [Act.put, List.setIfInBounds_toArray, List.set_cons_zero, List.set_cons_succ, i64_w, i32_w]
                   rfl
                  refine pure_ (i := 1) (N := some 85) (v := ?_) (a' := ?_) (bl 2 9) rfl rfl (any_of HT_.out (by kernel_rfl)) (fun _ _ _ h => h) (Or.inl ⟨by rfl, ?_⟩) ?_ ?_
                  rotate_left
                  ·intro w'
                   go_simp
                   with_reducible rfl
                  rotate_left
                  ·simp only [Act.put, List.setIfInBounds_toArray, List.set_cons_zero, List.set_cons_succ, i64_w, i32_w]
                   rfl
                  refine pure_ (i := 2) (N := some 86) (v := ?_) (a' := ?_) (bl 3 9) rfl rfl (any_of HT_.out (by kernel_rfl)) (fun _ _ _ h => h) (Or.inl ⟨by rfl, ?_⟩) ?_ ?_
                  rotate_left
                  ·intro w'
                   go_simp
                   with_reducible rfl
                  rotate_left
                  ·simp only [Act.put, List.setIfInBounds_toArray, List.set_cons_zero, List.set_cons_succ, i64_w, i32_w]
                   rfl
                  refine pure_ (i := 3) (N := some 87) (v := ?_) (a' := ?_) (bl 4 9) rfl rfl (any_of HT_.out (by kernel_rfl)) (fun _ _ _ h => h) (Or.inl ⟨by rfl, ?_⟩) ?_ ?_
                  rotate_left
                  ·intro w'
                   go_simp
                   with_reducible rfl
                  rotate_left
                  ·simp only [Act.put, List.setIfInBounds_toArray, List.set_cons_zero, List.set_cons_succ, i64_w, i32_w]
                   rfl
                  refine pure_ (i := 4) (N := some 88) (v := ?_) (a' := ?_) (bl 5 9) rfl rfl (any_of HT_.out (by kernel_rfl)) (fun _ _ _ h => h) (Or.inl ⟨by rfl, ?_⟩) ?_ ?_
                  rotate_left
                  ·intro w'
                   go_simp
                   with_reducible rfl
                  rotate_left
                  ·simp only [Act.put, List.setIfInBounds_toArray, List.set_cons_zero, List.set_cons_succ, i64_w, i32_w]
                   rfl
                  refine pure_ (i := 5) (N := some 89) (v := ?_) (a' := ?_) (bl 6 9) rfl rfl (any_of HT_.out (by kernel_rfl)) (fun _ _ _ h => h) (Or.inl ⟨by rfl, ?_⟩) ?_ ?_
                  rotate_left
                  ·intro w'
                   go_simp
                   with_reducible rfl
                  rotate_left
                  ·simp only [Act.put, List.setIfInBounds_toArray, List.set_cons_zero, List.set_cons_succ, i64_w, i32_w]
                   rfl
                  refine pure_ (i := 6) (N := some 90) (v := ?_) (a' := ?_) (bl 7 9) rfl rfl (any_of HT_.out (by kernel_rfl)) (fun _ _ _ h => h) (Or.inl ⟨by rfl, ?_⟩) ?_ ?_
                  rotate_left
                  ·intro w'
                   go_simp
                   with_reducible rfl
                  rotate_left
                  ·simp only [Act.put, List.setIfInBounds_toArray, List.set_cons_zero, List.set_cons_succ, i64_w, i32_w]
                   rfl
                  refine one_ (i := 7) (N := some 91) (bl 8 9) rfl rfl (one_of HT_.out (by kernel_rfl)) (by decide) (fun K hK => ?_)
                  have hj_ : 0 ≤ (x10_3 : Int) := of_decide_eq_true (by first | (with_reducible assumption) | assumption)
                  have hl_ : (ji38 : Int) ≤ (x7_2.length : Int) := of_decide_eq_true (by first | (with_reducible assumption) | assumption)
                  have hh_ : (x10_3 : Int) ≤ (x7_2.length : Int) := of_decide_eq_true (by first | (with_reducible assumption) | assumption)
                  have hb_ := (Kd.R_reads' HO_7.out).2.2.2.1
                  have h0_ : (0 : Int) ≤ (ji38 : Int) := of_decide_eq_true (by first | (with_reducible assumption) | assumption)
                  have hy1_ := KY44.out
                  have hk_ : (ji38 : Int).toNat = y171.length + 1 := (by have hw_ : (ji38 : Int) = x10_3 + 1 := (by have h00_ := h0_; rw [← hji38] at h00_ ⊢; unfold wrap64 at h00_ ⊢; omega); rw [hw_]; omega)
                  refine Kd.R_delete_step k36 (w0 := w) w.heap.size (by rfl) (.tmp 86) (.tmp 90) 22 36 rfl Try.underlying22 (by kernel_rfl) (g := go47) (n := x7_2.length) (c := co19) (k := y171.length) rfl rfl ?hA ?hm (by (with_reducible repeat (first | apply Kd.R_alloc | apply Kd.R_drewN | apply Kd.R_drew)); exact HO_7.out) ?hk (by repeat (first | (with_reducible first | exact HB.out | apply below_alloc | apply pw_below_drewN | apply below_drew1 | refine below_set ?_ GE151.out) | exact HB.out)) (below_size (by repeat (first | (with_reducible first | exact HB.out | apply below_alloc | apply pw_below_drewN | apply below_drew1 | refine below_set ?_ GE151.out) | exact HB.out))) ?_
                  (case hA => have ha_ := KA45.out; rw [hk_] at ha_; exact ha_)
                  (case hm => have ha_ := KY45.out; omega)
                  (case hk => omega)
                  intro w46 ho hb hg
                  clear hj_ hl_ hh_ hb_ hk_ h0_
                  rw [hy1_, ← Ny179.out] at ho
                  clear hy1_
                  have hn_ : x7_2.length - 1 = y179.length := (by have := (Kd.R_reads' ho).1; omega)
                  rw [hn_] at ho ⊢
                  clear hn_
                  have n0_ := Aside0.mk (ho)
                  have n1_ := Aside0.mk (blk_grown (g := gb151) (o := .cells #[.int .i64 a1_0, .int .i64 a1_1] 24 (0, 0)) (by (with_reducible repeat (first | refine blk_drewN ?_ _ | refine blk_drew ?_ | refine blk_alloc ?_ _)); exact BK151.out) hg (Kd.R_ne HO_7.out BK151.out (by decide)))
                  have n2_ := Aside0.mk (Kd.R_after (v := (.slice (some ⟨go47, 0, none⟩) x7_2.length co19)) (v1 := .slice (some ⟨go47, 0, none⟩) y179.length co19) (ok := (fun _ => True)) (by (with_reducible repeat (first | apply Kd.R_alloc | apply Kd.R_drewN | apply Kd.R_drew)); exact Kd.R_mono HO170.out (fun _ hk => ⟨trivial, hk⟩)) hg (.inl rfl))
                  have n3_ := Aside0.mk (hb)
                  clear HO_7
                  clear BK151
                  clear HO170
                  clear HB
                  have HO_7 := n0_
                  have BK151 := n1_
                  have HO170 := n2_
                  have HB := n3_
                  clear n0_ n1_ n2_ n3_
                  clear ho hb hg
                  refine hK.out _ _ trivial (fun hHeld => ?_)
                  clear hK K
                  refine norm_ (a' := ?_) ?_ ?_
                  rotate_left
                  ·show Act.put _ (some 91) _ = _
                   simp only [Act.put, List.setIfInBounds_toArray, List.set_cons_zero, List.set_cons_succ, i64_w, i32_w]
                   rfl
                  refine pure_ (i := 8) (N := some 7) (v := ?_) (a' := ?_) (bl 9 9) rfl rfl (any_of HT_.out (by kernel_rfl)) (fun _ _ _ h => h) (Or.inl ⟨by rfl, ?_⟩) ?_ ?_
                  rotate_left
                  ·intro w'
                   go_simp
                   with_reducible rfl
                  rotate_left
                  ·simp only [Act.put, List.setIfInBounds_toArray, List.set_cons_zero, List.set_cons_succ, i64_w, i32_w]
                   rfl
                  refine done_ (done_of HT_.out (by kernel_rfl)) ?_
                  try go_wp2
                  go_roundg k3
                  case measure => have := HK1.out; have := HK2.out; have := HK3.out; omega
                  case rel => exact ⟨(y179), (y168), H', ⟨by have := HK1.out; have := HK2.out; have := HK3.out; omega⟩, ⟨by (with_reducible repeat (first | apply Kd.R_alloc | apply Kd.R_drewN | apply Kd.R_drew)); exact HO_7.out⟩, ⟨by (with_reducible repeat (first | apply Kd.R_alloc | apply Kd.R_drewN | apply Kd.R_drew)); exact Kd.R_mono HO170.out (fun _ hk => hk.2)⟩, ⟨by (with_reducible repeat (first | refine blk_drewN ?_ _ | refine blk_drew ?_ | refine blk_alloc ?_ _)); exact BK151.out⟩, ⟨by repeat (first | (with_reducible first | exact HB.out | apply below_alloc | apply pw_below_drewN | apply below_drew1 | refine below_set ?_ GE151.out) | exact HB.out)⟩⟩
                 ·rw [if_neg c40] at H
                  exact absurd H (by simp)
                ·rw [if_neg c39] at H
                 exact absurd H (by simp)
               ·rw [if_neg c37] at H
                exact absurd H (by simp)
              ·rw [if_neg c35] at H
               exact absurd H (by simp)
           ·rw [if_neg c21] at H
            exact absurd H (by simp)
          ·rw [if_neg c20] at H
           have c20b0 : decide (x10_3 < (x7_2.length : Int)) = false := decide_eq_false c20
           clear c20
           by_cases c48 : x10_3 = (x7_2.length : Int)
           ·rw [if_pos c48] at H
            have c48b0 : (x10_3 == (x7_2.length : Int)) = true := beq_iff_eq.mpr c48
            have c48b1 : (x10_3 != (x7_2.length : Int)) = false := bne_eq_false_iff_eq.mpr c48
            clear c48
            by_cases c49 : 0 < (x7_2.length : Int)
            ·rw [if_pos c49] at H
             have c49b0 : decide (0 < (x7_2.length : Int)) = true := decide_eq_true c49
             have c49b1 : decide (0 < x7_2.length) = true := decide_eq_true (by omega)
             clear c49
             by_cases c50 : x9_2.length < 4398046511104
             ·rw [if_pos c50] at H
              have LMc50 := Aside0.mk c50
              clear c50
              obtain ⟨y183, hy183⟩ : ∃ y_ : List (S36), y_ = (x9_2 ++ [(⟨(⟨a1_0, a1_1⟩ : S24), (⟨(rd_T36 x7_2 0).f1.f0, (rd_T36 x7_2 0).f1.f1⟩ : S24)⟩ : S36)]) := ⟨_, rfl⟩
              replace H : (quernref13_Order.l1 k3 (x7_2.set (0 : Int).toNat (⟨(⟨(rd_T36 x7_2 0).f0.f0, (rd_T36 x7_2 0).f0.f1⟩ : S24), (⟨a1_0, a1_1⟩ : S24)⟩ : S36)) y183 a1_0 a1_1) = some (r1, r2) := by first | (rw [hy183]; with_reducible exact H) | (have H2_ := (Option.bind_some _ _).symm.trans H; rw [hy183]; with_reducible exact H2_) | (have H2_ := (Option.bind_some _ _).symm.trans H; with_reducible exact H2_) | with_reducible exact H | (rw [hy183]; exact H) | exact H
              have Ny183 := Aside0.mk hy183
              clear hy183
              obtain ⟨y186, hy186⟩ : ∃ y_ : List (S36), y_ = (x7_2.set (0 : Int).toNat (⟨(⟨(rd_T36 x7_2 0).f0.f0, (rd_T36 x7_2 0).f0.f1⟩ : S24), (⟨a1_0, a1_1⟩ : S24)⟩ : S36)) := ⟨_, rfl⟩
              replace H : (quernref13_Order.l1 k3 y186 y183 a1_0 a1_1) = some (r1, r2) := by first | (rw [hy186]; with_reducible exact H) | (have H2_ := (Option.bind_some _ _).symm.trans H; rw [hy186]; with_reducible exact H2_) | (have H2_ := (Option.bind_some _ _).symm.trans H; with_reducible exact H2_) | with_reducible exact H | (rw [hy186]; exact H) | exact H
              have Ny186 := Aside0.mk hy186
              clear hy186
              have H' := Aside0.mk H
              clear H
              try go_wp2
              have n0_ := Aside0.mk (Kd.R_drew HO_7.out)
              have n1_ := Aside0.mk (Kd.R_drew HO_9.out)
              have n2_ := Aside0.mk (blk_drew BK151.out)
              have n3_ := Aside0.mk (below_drew1 HB.out)
              clear HO_7
              clear HO_9
              clear BK151
              clear HB
              have HO_7 := n0_
              have HO_9 := n1_
              have BK151 := n2_
              have HB := n3_
              clear n0_ n1_ n2_ n3_
              have p182 : 0 ≤ (0 : Int) := (by omega)
              have q182 : 0 < (x7_2.length : Int) := of_decide_eq_true (by first | (with_reducible assumption) | assumption)
              obtain ⟨ad182, e182, hx182_0, hx182_1, hx182_2, hx182_3⟩ := at_T36 (Kd.R_reads' HO_7.out).2.2 0 p182 q182
              cases e182
              have qi182 : (0 < x7_2.length) = True := eq_true (by omega)
              (try rw [show ((0 : Int)).toNat = 0 from rfl] at hx182_0)
              (try rw [show 0 * 4 = 0 from rfl] at hx182_0)
              (try rw [Addr.add_zero'] at hx182_0)
              (try rw [show ((0 : Int)).toNat = 0 from rfl] at hx182_1)
              (try rw [show 0 * 4 = 0 from rfl] at hx182_1)
              (try rw [Addr.add_zero'] at hx182_1)
              (try rw [show ((0 : Int)).toNat = 0 from rfl] at hx182_2)
              (try rw [show 0 * 4 = 0 from rfl] at hx182_2)
              (try rw [Addr.add_zero'] at hx182_2)
              (try rw [show ((0 : Int)).toNat = 0 from rfl] at hx182_3)
              (try rw [show 0 * 4 = 0 from rfl] at hx182_3)
              (try rw [Addr.add_zero'] at hx182_3)
              replace p182 := eq_true p182
              replace q182 := eq_true q182
              refine start_ (n := 10) (S := fun w' => w'.cell? ⟨gb151, 0, none⟩ = some (.int .i64 a1_0) ∧ w'.cell? ⟨gb151, 1, none⟩ = some (.int .i64 a1_1) ∧ w'.cell? ad182 = some (.int .i64 ((rd_T36 x7_2 0).f0.f0)) ∧ w'.cell? ⟨ad182.block, ad182.off + 1, none⟩ = some (.int .i64 ((rd_T36 x7_2 0).f0.f1)) ∧ w'.cell? ⟨ad182.block, ad182.off + 2, none⟩ = some (.int .i64 ((rd_T36 x7_2 0).f1.f0)) ∧ w'.cell? ⟨ad182.block, ad182.off + 3, none⟩ = some (.int .i64 ((rd_T36 x7_2 0).f1.f1))) (ds := [7, 8]) (bl 0 10) (by kernel_rfl) rfl rfl ⟨(blk_cell BK151.out 0).trans rfl, (blk_cell BK151.out 1).trans rfl, hx182_0, hx182_1, hx182_2, hx182_3⟩ (fun hHeld => ?_); refine with_tabW quernref13_Order.tab16 quernref13_Order.bits16 (fun HT_ HW_ => ?_)
              generalize wr.drew = w52 at HO_7 HO_9 BK151 HB hx182_0 hx182_1 hx182_2 hx182_3 hHeld ⊢
              refine pure_ (i := 0) (N := some 64) (v := ?_) (a' := ?_) (bl 1 10) rfl rfl (any_of HT_.out (by kernel_rfl)) (fun _ _ _ h => h) (Or.inl ⟨by rfl, ?_⟩) ?_ ?_
              rotate_left
              ·intro w'
               go_simp
               with_reducible rfl
              rotate_left
              ·simp only [Act.put, List.setIfInBounds_toArray, List.set_cons_zero, List.set_cons_succ, i64_w, i32_w]
               rfl
              refine pure_ (i := 2) (N := some 66) (v := ?_) (a' := ?_) #[true, false, true, false, false, false, false, false, false, false] rfl rfl (any_of HT_.out (by kernel_rfl)) (fun _ _ _ h => h) (Or.inl ⟨by rfl, ?_⟩) ?_ ?_
              rotate_left
              ·intro w'
               go_simp
               with_reducible rfl
              rotate_left
              ·simp only [Act.put, List.setIfInBounds_toArray, List.set_cons_zero, List.set_cons_succ, i64_w, i32_w]
               rfl
              refine pure_ (i := 3) (N := some 67) (v := ?_) (a' := ?_) #[true, false, true, true, false, false, false, false, false, false] rfl rfl (any_of HT_.out (by kernel_rfl)) (fun _ _ _ h => h) (Or.inl ⟨by rfl, ?_⟩) ?_ ?_
              rotate_left
              ·intro w'
               go_simp
               with_reducible rfl
              rotate_left
              ·simp only [Act.put, List.setIfInBounds_toArray, List.set_cons_zero, List.set_cons_succ, i64_w, i32_w]
               rfl
              refine pure_ (i := 4) (N := some 68) (v := ?_) (a' := ?_) #[true, false, true, true, true, false, false, false, false, false] rfl rfl (any_of HT_.out (by kernel_rfl)) (fun _ _ _ h => h) (Or.inl ⟨by rfl, ?_⟩) ?_ ?_
              rotate_left
              ·intro w'
               go_simp
               with_reducible rfl
              rotate_left
              ·simp only [Act.put, List.setIfInBounds_toArray, List.set_cons_zero, List.set_cons_succ, i64_w, i32_w]
               rfl
              refine take_ (i := 1) (N := some 65) (v := ?_) (a' := ?_) (bl 5 10) rfl rfl (take_ofW HT_.out HW_.out (by kernel_rfl)) (fun _ _ _ h => h) (Or.inl ⟨by rfl, ?_⟩) hHeld ?_ ?_
              rotate_left
              ·rintro w' ⟨s0, s1, s2, s3, s4, s5⟩
               go_simp
               with_reducible rfl
              rotate_left
              ·simp only [Act.put, List.setIfInBounds_toArray, List.set_cons_zero, List.set_cons_succ, i64_w, i32_w]
               rfl
              refine take_ (i := 5) (N := some 69) (v := ?_) (a' := ?_) (bl 6 10) rfl rfl (take_ofW HT_.out HW_.out (by kernel_rfl)) (fun _ _ _ h => h) (Or.inl ⟨by rfl, ?_⟩) hHeld ?_ ?_
              rotate_left
              ·rintro w' ⟨s0, s1, s2, s3, s4, s5⟩
               go_simp
               with_reducible rfl
              rotate_left
              ·simp only [Act.put, List.setIfInBounds_toArray, List.set_cons_zero, List.set_cons_succ, i64_w, i32_w]
               rfl
              refine pure_ (i := 6) (N := some 70) (v := ?_) (a' := ?_) (bl 7 10) rfl rfl (any_of HT_.out (by kernel_rfl)) (fun _ _ _ h => h) (Or.inl ⟨by rfl, ?_⟩) ?_ ?_
              rotate_left
              ·intro w'
               go_simp
               with_reducible rfl
              rotate_left
              ·simp only [Act.put, List.setIfInBounds_toArray, List.set_cons_zero, List.set_cons_succ, i64_w, i32_w]
               rfl
              refine last_ (i := 7) (N := some 71) (bl 8 10) rfl rfl (one_of HT_.out (by kernel_rfl)) (by decide) (fun K hK => ?_)
              refine value_ (w1 := ?_) (v := ?_) (by rfl) rfl ?_ ?_
              rotate_left 2
              ·go_simp
               constructor
               ·rfl
               ·rfl
              refine hK.out _ _ ?_
              clear hK K
              refine norm_ (a' := ?_) ?_ ?_
              rotate_left
              ·show Act.put _ (some 71) _ = _
               simp only [Act.put, List.setIfInBounds_toArray, List.set_cons_zero, List.set_cons_succ, i64_w, i32_w]
               rfl
              refine last_ (i := 8) (N := some 72) (bl 9 10) rfl rfl (one_of HT_.out (by kernel_rfl)) (by decide) (fun K hK => ?_)
              refine Kd.R_append_step k36 (w0 := w) w.heap.size (by rfl) (.tmp 64) (.tmp 71) 22 36 (.agg #[(.int .i64 0), (.int .i64 0), (.int .i64 0), (.int .i64 0)]) 32 rfl Try.underlying22 info36p rfl (by decide) (by omega) u9 x9_2 (⟨(⟨a1_0, a1_1⟩ : S24), (⟨(rd_T36 x7_2 0).f1.f0, (rd_T36 x7_2 0).f1.f1⟩ : S24)⟩ : S36) [.int .i64 a1_0, .int .i64 a1_1, .int .i64 ((rd_T36 x7_2 0).f1.f0), .int .i64 ((rd_T36 x7_2 0).f1.f1)] (fun k_ => some k_ ≠ (.slice (some ad182) x7_2.length co19 : Value).ownBlock) (fun _ => False) rfl rfl ?aP (fun _ hk => hk.elim) ?aF ?aO ?aB ?aS ?aL ?_
              (case aP => exact k36_mkM _ _ _ (⟨(⟨a1_0, a1_1⟩ : S24), (⟨(rd_T36 x7_2 0).f1.f0, (rd_T36 x7_2 0).f1.f1⟩ : S24)⟩ : S36))
              (case aB => exact (by repeat (first | (with_reducible first | exact HB.out | apply below_alloc | apply pw_below_drewN | apply below_drew1 | refine below_set ?_ GE151.out) | exact HB.out)))
              (case aF => exact (fun k_ hk => Kd.fresh' (Kd.R_lt (by (with_reducible repeat (first | apply Kd.R_alloc | apply Kd.R_drewN | apply Kd.R_drew)); exact HO_7.out)) k_ hk))
              (case aO => exact (by (with_reducible repeat (first | apply Kd.R_alloc | apply Kd.R_drewN | apply Kd.R_drew)); exact HO_9.out))
              (case aS => exact (below_size (by repeat (first | (with_reducible first | exact HB.out | apply below_alloc | apply pw_below_drewN | apply below_drew1 | refine below_set ?_ GE151.out) | exact HB.out))))
              (case aL => have := LMc50.out; omega)
              intro v184 w53 ho hb hg hat
              rw [← Ny183.out] at ho
              have n0_ := Aside0.mk (Kd.R_after (ok := (fun _ => True)) (by (with_reducible repeat (first | apply Kd.R_alloc | apply Kd.R_drewN | apply Kd.R_drew)); exact Kd.R_mono HO_7.out (fun _ hk => ⟨trivial, hk⟩)) hg hat)
              have n1_ := Aside0.mk (blk_grown (g := gb151) (o := .cells #[.int .i64 a1_0, .int .i64 a1_1] 24 (0, 0)) (by (with_reducible repeat (first | refine blk_drewN ?_ _ | refine blk_drew ?_ | refine blk_alloc ?_ _)); exact BK151.out) hg (Kd.R_ne HO_9.out BK151.out (by decide)))
              have n2_ := Aside0.mk (hb)
              have n3_ := Aside0.mk (ho)
              clear HO_7
              clear BK151
              clear HB
              clear HO_9
              have HO_7 := n0_
              have BK151 := n1_
              have HB := n2_
              have HO185 := n3_
              clear n0_ n1_ n2_ n3_
              clear ho hb hg hat
              refine hK.out _ _ ?_
              clear hK K
              refine norm_ (a' := ?_) ?_ ?_
              rotate_left
              ·show Act.put _ (some 72) _ = _
               simp only [Act.put, List.setIfInBounds_toArray, List.set_cons_zero, List.set_cons_succ, i64_w, i32_w]
               rfl
              refine pure_ (i := 9) (N := some 9) (v := ?_) (a' := ?_) (bl 10 10) rfl rfl (any_of HT_.out (by kernel_rfl)) (fun _ _ _ h => h) (Or.inl ⟨by rfl, ?_⟩) ?_ ?_
              rotate_left
              ·intro w'
               go_simp
               with_reducible rfl
              rotate_left
              ·simp only [Act.put, List.setIfInBounds_toArray, List.set_cons_zero, List.set_cons_succ, i64_w, i32_w]
               rfl
              refine done_ (done_of HT_.out (by kernel_rfl)) ?_
              have hcz54_0 : w53.cell? ⟨gb151, 0, none⟩ = some (.int .i64 a1_0) := (blk_cell BK151.out 0).trans rfl
              have hcz54_1 : w53.cell? ⟨gb151, 1, none⟩ = some (.int .i64 a1_1) := (blk_cell BK151.out 1).trans rfl
              have hfz54_0 := blk_frozen BK151.out 0
              have hfz54_1 := blk_frozen BK151.out 1
              have p51 : 0 ≤ (0 : Int) := (by omega)
              have q51 : (0 : Int) < ((x7_2.length : Int) : Int) := of_decide_eq_true (by first | (with_reducible assumption) | assumption)
              have qi51 : (0 < x7_2.length) = True := eq_true (by omega)
              obtain ⟨go51, co51, eo51, gb51, gl51, cl51, HG51⟩ := Kd.R_form HO_7.out (by omega)
              (first | cases eo51 | (injection eo51 with ea_ en_ ec_; (first | subst ea_ | (injection ea_ with ea_; subst ea_)); subst ec_; clear en_))
              have GB51 := Aside0.mk gb51
              have GG51 := Aside0.mk HG51
              clear gb51 gl51 HG51
              (first | simp only [add_plain] at hx182_0 | skip)
              (first | simp only [add_plain] at hx182_1 | skip)
              (first | simp only [add_plain] at hx182_2 | skip)
              (first | simp only [add_plain] at hx182_3 | skip)
              obtain ⟨ce51, hcl51, hM51, hcc51, hfr51⟩ := Kd.R_elem HO_7.out z36 (0 : Int) p51 q51
              obtain rfl := k36_openM hM51
              have hx51_0 : w53.cell? ⟨go51, (0 : Int).toNat * 4, none⟩ = some (.int .i64 ((rd_T36 x7_2 0).f0.f0)) := hcc51 0 _ rfl
              have hx51_1 : w53.cell? ⟨go51, (0 : Int).toNat * 4 + 1, none⟩ = some (.int .i64 ((rd_T36 x7_2 0).f0.f1)) := hcc51 1 _ rfl
              have hx51_2 : w53.cell? ⟨go51, (0 : Int).toNat * 4 + 2, none⟩ = some (.int .i64 ((rd_T36 x7_2 0).f1.f0)) := hcc51 2 _ rfl
              have hx51_3 : w53.cell? ⟨go51, (0 : Int).toNat * 4 + 3, none⟩ = some (.int .i64 ((rd_T36 x7_2 0).f1.f1)) := hcc51 3 _ rfl
              have hf51_0 : w53.frozen? ⟨go51, (0 : Int).toNat * 4, none⟩ = false := hfr51 0
              have hf51_1 : w53.frozen? ⟨go51, (0 : Int).toNat * 4 + 1, none⟩ = false := hfr51 1
              have hf51_2 : w53.frozen? ⟨go51, (0 : Int).toNat * 4 + 2, none⟩ = false := hfr51 2
              have hf51_3 : w53.frozen? ⟨go51, (0 : Int).toNat * 4 + 3, none⟩ = false := hfr51 3
              clear hcl51 hcc51 hfr51 hM51
              (try rw [show ((0 : Int)).toNat = 0 from rfl] at hx51_0)
              (try simp only [Nat.reduceMul, Nat.zero_mul, Nat.zero_add, Nat.reduceAdd] at hx51_0)
              (try rw [show ((0 : Int)).toNat = 0 from rfl] at hf51_0)
              (try simp only [Nat.reduceMul, Nat.zero_mul, Nat.zero_add, Nat.reduceAdd] at hf51_0)
              (try rw [show ((0 : Int)).toNat = 0 from rfl] at hx51_1)
              (try simp only [Nat.reduceMul, Nat.zero_mul, Nat.zero_add, Nat.reduceAdd] at hx51_1)
              (try rw [show ((0 : Int)).toNat = 0 from rfl] at hf51_1)
              (try simp only [Nat.reduceMul, Nat.zero_mul, Nat.zero_add, Nat.reduceAdd] at hf51_1)
              (try rw [show ((0 : Int)).toNat = 0 from rfl] at hx51_2)
              (try simp only [Nat.reduceMul, Nat.zero_mul, Nat.zero_add, Nat.reduceAdd] at hx51_2)
              (try rw [show ((0 : Int)).toNat = 0 from rfl] at hf51_2)
              (try simp only [Nat.reduceMul, Nat.zero_mul, Nat.zero_add, Nat.reduceAdd] at hf51_2)
              (try rw [show ((0 : Int)).toNat = 0 from rfl] at hx51_3)
              (try simp only [Nat.reduceMul, Nat.zero_mul, Nat.zero_add, Nat.reduceAdd] at hx51_3)
              (try rw [show ((0 : Int)).toNat = 0 from rfl] at hf51_3)
              (try simp only [Nat.reduceMul, Nat.zero_mul, Nat.zero_add, Nat.reduceAdd] at hf51_3)
              replace p51 := eq_true p51
              replace q51 := eq_true q51
              have n_ := Aside0.mk (Kd.R_mono (ok' := (fun k_ => some k_ ≠ (v184 : Value).ownBlock)) HO_7.out (fun k_ hk => hk.2))
              clear HO_7
              have HO_7 := n_
              clear n_
              have HX55 := Aside0.mk (show Kd.R k36 36 w53 w.heap.size (fun k_ => some k_ ≠ (v184 : Value).ownBlock) (.slice (some ⟨go51, 0, none⟩) x7_2.length co19) x7_2 from (by (with_reducible repeat (first | apply Kd.R_alloc | apply Kd.R_drewN | apply Kd.R_drew)); exact HO_7.out))
              obtain ⟨ce55, hcl55, hM55, hcc55, hfr55⟩ := Kd.R_elem HX55.out z36 (0 : Int) (by omega) (by have h_ : (0 : Int) < ((x7_2.length : Int) : Int) := of_decide_eq_true (by first | (with_reducible assumption) | assumption); first | exact h_ | (have e_ := (Kd.R_reads' HO_7.out).1; omega) | simpa using h_)
              obtain rfl := k36_openM hM55
              have HP55 := Kd.R_seg HX55.out (0 : Int) (by omega) (by have h_ : (0 : Int) < ((x7_2.length : Int) : Int) := of_decide_eq_true (by first | (with_reducible assumption) | assumption); first | exact h_ | (have e_ := (Kd.R_reads' HO_7.out).1; omega) | simpa using h_) (seg := [.int .i64 a1_0, .int .i64 a1_1]) (j := 2) hcl55 hcc55 (show 4 ≤ 4 from by decide) (x' := (⟨(⟨(rd_T36 x7_2 0).f0.f0, (rd_T36 x7_2 0).f0.f1⟩ : S24), (⟨a1_0, a1_1⟩ : S24)⟩ : S36)) (k36_mkM _ _ _ (⟨(⟨(rd_T36 x7_2 0).f0.f0, (rd_T36 x7_2 0).f0.f1⟩ : S24), (⟨a1_0, a1_1⟩ : S24)⟩ : S36) ) (fun _ hk => hk)
              have hx55_2 := hcc55 2 _ rfl
              (try simp only [show (k36).sz = 4 from rfl, Nat.mul_one, Nat.add_zero] at hx55_2)
              (try rw [show ((0 : Int)).toNat = 0 from rfl] at hx55_2)
              (try simp only [Nat.reduceMul, Nat.zero_mul, Nat.zero_add, Nat.reduceAdd] at hx55_2)
              have hf55_2 := hfr55 2
              (try simp only [show (k36).sz = 4 from rfl, Nat.mul_one, Nat.add_zero] at hf55_2)
              (try rw [show ((0 : Int)).toNat = 0 from rfl] at hf55_2)
              (try simp only [Nat.reduceMul, Nat.zero_mul, Nat.zero_add, Nat.reduceAdd] at hf55_2)
              have hx55_3 := hcc55 3 _ rfl
              (try simp only [show (k36).sz = 4 from rfl, Nat.mul_one, Nat.add_zero] at hx55_3)
              (try rw [show ((0 : Int)).toNat = 0 from rfl] at hx55_3)
              (try simp only [Nat.reduceMul, Nat.zero_mul, Nat.zero_add, Nat.reduceAdd] at hx55_3)
              have hf55_3 := hfr55 3
              (try simp only [show (k36).sz = 4 from rfl, Nat.mul_one, Nat.add_zero] at hf55_3)
              (try rw [show ((0 : Int)).toNat = 0 from rfl] at hf55_3)
              (try simp only [Nat.reduceMul, Nat.zero_mul, Nat.zero_add, Nat.reduceAdd] at hf55_3)
              clear hcl55 hcc55 hfr55 hM55
              try go_wp2_with (first | ((with_reducible refine gate_store (t := 24) (p := 76) rfl ?_); refine store_event (t := 24) (p := 76) (v := ?vo_w56) (w1 := ((w53.setCell ⟨go51, 2, none⟩ (.int .i64 a1_0)).setCell ⟨go51, 3, none⟩ (.int .i64 a1_1))) ?hg ?ho ?hn ?hr ?_; (case ho => rfl); (case hg => rfl); (case hn => rfl); (case hr => first | (go_simp; done) | (go_simp; rfl)); intro w56 hw; have hg : w53.grownBy w56 (some go51) := (by rw [hw]; exact HP55.2); have hp_ : Kd.R k36 36 w56 w.heap.size (fun k_ => some k_ ≠ (v184 : Value).ownBlock) (.slice (some ⟨go51, 0, none⟩) x7_2.length co19) y186 := (by rw [hw, Ny186.out]; exact HP55.1); clear HP55; have n0_ := Aside0.mk (hp_); have n1_ := Aside0.mk (blk_grown (g := gb151) (o := .cells #[.int .i64 a1_0, .int .i64 a1_1] 24 (0, 0)) (by (with_reducible repeat (first | refine blk_drewN ?_ _ | refine blk_drew ?_ | refine blk_alloc ?_ _)); exact BK151.out) hg (Kd.R_ne HO_7.out BK151.out (by decide))); have n2_ := Aside0.mk (Kd.R_after (v := (.slice (some ⟨go51, 0, none⟩) x7_2.length co19)) (v1 := (.slice (some ⟨go51, 0, none⟩) x7_2.length co19)) (ok := (fun _ => True)) (by (with_reducible repeat (first | apply Kd.R_alloc | apply Kd.R_drewN | apply Kd.R_drew)); exact Kd.R_mono HO185.out (fun _ hk => ⟨trivial, hk⟩)) hg (.inl rfl)); have n3_ := Aside0.mk ((by rw [hw]; exact below_set (below_set (HB.out) GB51.out) GB51.out : Below w.heap.size w w56)); clear HO_7; clear BK151; clear HO185; clear HB; have HO_7 := n0_; have BK151 := n1_; have HO185 := n2_; have HB := n3_; clear n0_ n1_ n2_ n3_; clear hg hw hp_))
              go_roundg k3
              case measure => have := HK1.out; have := HK2.out; have := HK3.out; omega
              case rel => exact ⟨(y186), (y183), H', ⟨by have := HK1.out; have := HK2.out; have := HK3.out; omega⟩, ⟨by (with_reducible repeat (first | apply Kd.R_alloc | apply Kd.R_drewN | apply Kd.R_drew)); exact HO_7.out⟩, ⟨by (with_reducible repeat (first | apply Kd.R_alloc | apply Kd.R_drewN | apply Kd.R_drew)); exact Kd.R_mono HO185.out (fun _ hk => hk.2)⟩, ⟨by (with_reducible repeat (first | refine blk_drewN ?_ _ | refine blk_drew ?_ | refine blk_alloc ?_ _)); exact BK151.out⟩, ⟨by repeat (first | (with_reducible first | exact HB.out | apply below_alloc | apply pw_below_drewN | apply below_drew1 | refine below_set ?_ GE151.out) | exact HB.out)⟩⟩
             ·rw [if_neg c50] at H
              exact absurd H (by simp)
            ·rw [if_neg c49] at H
             exact absurd H (by simp)
           ·rw [if_neg c48] at H
            have c48b0 : (x10_3 == (x7_2.length : Int)) = false := beq_eq_false_iff_ne.mpr c48
            have c48b1 : (x10_3 != (x7_2.length : Int)) = true := bne_iff_ne.mpr c48
            by_cases c57 : 0 ≤ x10_3
            ·rw [if_pos c57] at H
             exact absurd H (by simp)
            ·rw [if_neg c57] at H
             exact absurd H (by simp)
       ·rw [if_neg c18] at H
        have c18b0 : decide (0 < (x7_2.length : Int)) = false := decide_eq_false c18
        have c18b1 : decide (0 < x7_2.length) = false := decide_eq_false (by omega)
        clear c18
        simp only [Option.some.injEq, Prod.mk.injEq] at H
        obtain ⟨rfl, rfl⟩ := H
        obtain ⟨Ao58, co58, eo58⟩ := Kd.R_slice HO_7.out
        subst eo58
        go_wp2
        go_ret2
        exact ⟨_, by first | rfl | (simp [errW_none, errW_some] <;> rfl) | (simp [*, errW_none, errW_some] <;> rfl), by (with_reducible repeat (first | apply Kd.R_alloc | apply Kd.R_drewN | apply Kd.R_drew)); exact Kd.R_mono HO_9.out (fun _ hk => trivial), by repeat (first | (with_reducible first | exact HB.out | apply below_alloc | apply pw_below_drewN | apply below_drew1 | refine below_set ?_ GE151.out) | exact HB.out)⟩
 ·rw [if_neg c4] at H
  have c4b0 : (t152 == 0) = false := beq_eq_false_iff_ne.mpr c4
  have c4b1 : (t152 != 0) = true := bne_iff_ne.mpr c4
  simp only [Option.some.injEq, Prod.mk.injEq] at H
  obtain ⟨rfl, rfl⟩ := H
  go_enter Try.func12, Try.ntmps12
  go_wp2_with (first | ((with_reducible refine gate_dst (N := 3) rfl ?_); refine box_event ?hg (N := 3) ?hd (cs := #[.int .i64 a1_0, .int .i64 a1_1]) (t := 24) ?hr ?_; (case hd => rfl); (case hg => rfl); (case hr => first | (go_simp; done) | (go_simp; rfl)); intro gb151 hg w59 hbox hb; have n0_ := Aside0.mk (below_step (by repeat (first | (with_reducible first | exact HB.out | apply below_alloc | apply pw_below_drewN | apply below_drew1) | exact HB.out)) hb); have n1_ := Aside0.mk (hbox); have n2_ := Aside0.mk ((by rw [hg]; exact (below_size (by repeat (first | (with_reducible first | exact HB.out | apply below_alloc | apply pw_below_drewN | apply below_drew1) | exact HB.out))) : w.heap.size ≤ gb151)); have n3_ := Aside0.mk ((by rw [hg]; exact (below_size (by repeat (first | (with_reducible first | exact HB.out | apply below_alloc | apply pw_below_drewN | apply below_drew1) | exact HB.out))) : w.heap.size ≤ gb151)); clear HB; have HB := n0_; have BK151 := n1_; have GW151 := n2_; have GE151 := n3_; clear n0_ n1_ n2_ n3_; clear hb hbox hg; have hcz60_0 : w59.cell? ⟨gb151, 0, none⟩ = some (.int .i64 a1_0) := (blk_cell BK151.out 0).trans rfl; have hcz60_1 : w59.cell? ⟨gb151, 1, none⟩ = some (.int .i64 a1_1) := (blk_cell BK151.out 1).trans rfl; have hfz60_0 := blk_frozen BK151.out 0; have hfz60_1 := blk_frozen BK151.out 1) | ((with_reducible refine gate_callee (f := 26) rfl ?_); refine goesL_ (some 13) rfl rfl Try.func26 (by kernel_rfl) rfl #[.slice A0 l0.length c0, .agg #[.int .i64 a1_0, .int .i64 a1_1]] rfl (by (try simp only [List.map_toArray, List.map_cons, List.map_nil]); first | done | rfl | (simp only [List.length_drop, List.length_take]; rfl)) ?_; (with_reducible refine (quernref13_Refuse.calls k _ _ l0 a1_0 a1_1 t152 _ ?side1 ?side2 A3.out).mono ?_); (case side1 => repeat (first | exact (Kd.C_below HR0.out HB.out) | (with_reducible refine Kd.C_alloc ?_ _) | (with_reducible refine Kd.C_drewN ?_ _) | (with_reducible refine Kd.C_drew ?_))); (case side2 => exact HC0.out); rintro e w61 ⟨rfl, hb⟩; refine ⟨_, rfl, ?_⟩; have n0_ := Aside0.mk (blk_below (g := gb151) (o := .cells #[.int .i64 a1_0, .int .i64 a1_1] 24 (0, 0)) (by (with_reducible repeat (first | refine blk_drewN ?_ _ | refine blk_drew ?_ | refine blk_alloc ?_ _)); exact BK151.out) hb); have n1_ := Aside0.mk (below_step (by repeat (first | (with_reducible first | exact HB.out | apply below_alloc | apply pw_below_drewN | apply below_drew1 | refine below_set ?_ GE151.out) | exact HB.out)) hb); clear BK151; clear HB; have BK151 := n0_; have HB := n1_; clear n0_ n1_; (try clear hb); (try clear hb2); (try clear hk); (try clear hi)))
  go_ret2
  exact ⟨_, by first | rfl | (simp [errW_none, errW_some] <;> rfl) | (simp [*, errW_none, errW_some] <;> rfl), by first | exact Kd.R_nil _ _ _ _ _ | exact Kd.N_nil _ _ _ _ _ | exact Kd.V_nil _ _ _ _ _ | exact Kd.Q_nil _ _ _ _ _ | exact Kd.S_nil _ _ _ _ _, by repeat (first | (with_reducible first | exact HB.out | apply below_alloc | apply pw_below_drewN | apply below_drew1 | refine below_set ?_ GE151.out) | exact HB.out)⟩

end Go.Proofs.Ytameoapnhmoleaa.PP
