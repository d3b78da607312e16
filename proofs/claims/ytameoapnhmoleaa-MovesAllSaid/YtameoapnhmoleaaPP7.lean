-- PRINTED by print.py (a twelfth state) out of the translation. Not trusted: Lean checks it.
import Derived.Test.YtameoapnhmoleaaPU
import Derived.Test.YtameoapnhmoleaaPP3
import Derived.Test.YtameoapnhmoleaaPQ7
namespace Go.Proofs.Ytameoapnhmoleaa.PP
open Go.RowKit Go.Proofs.YtameoapnhmoleaaW.PrintWords Go.Proofs.YtameoapnhmoleaaW.PrintLast Go.Proofs.YtameoapnhmoleaaW.PrintMore
attribute [local go_sem] max2_int min2_int max_two min_two max_three min_three max_four min_four   -- for this text's walks alone
set_option linter.unusedVariables false
set_option linter.unusedSimpArgs false

def quernref13_Refuse.T4 : Bool × List (List Nat × List Nat) := (true, [([], []), ([], []), ([0, 1], [0, 1]), ([2], [2]), ([3], [3]), ([4], [4]), ([5], [5]), ([6, 5], [6]), ([7], [7]), ([7], [7]), ([8, 9, 7], [7, 8, 9]), ([10, 7], [7, 10]), ([11, 7], [7, 11]), ([12, 7, 7], [7, 12]), ([13, 7], [7, 13]), ([14, 13, 7], [7, 14]), ([15], [15]), ([15], [15]), ([16, 17, 15], [15, 16, 17]), ([18, 15], [15, 18]), ([19, 15], [15, 19]), ([20, 15], [15, 20]), ([21, 15], [15, 21]), ([15, 22, 7], [7, 15, 22]), ([7, 23], [7, 23]), ([24, 15], [24]), ([25], [25]), ([25], [25]), ([26, 27, 25], [25, 26, 27]), ([28, 25], [25, 28]), ([29, 25], [25, 29]), ([25], [25]), ([30, 31, 25, 25], [25, 30, 31]), ([25, 32], [25, 32]), ([33, 32], [33]), ([34], [34]), ([34], [34]), ([35, 36, 34], [34, 35, 36]), ([37, 34], [34, 37]), ([38, 34], [34, 38]), ([34], [34]), ([39, 40, 34, 34], [34, 39, 40]), ([34, 41], [34, 41])])
def quernref13_Refuse.B4 : List Nat := [0, 0, 3, 7, 15, 31, 63, 127, 255, 255, 1023, 2047, 4095, 8191, 16383, 32767, 65535, 65535, 262143, 524287, 1048575, 2097151, 4194303, 8388607, 16777215, 33554431, 67108863, 67108863, 268435455, 536870911, 1073741823, 67108863, 4294967295, 8589934591, 17179869183, 34359738367, 34359738367, 137438953471, 274877906943, 549755813887, 34359738367, 2199023255551, 4398046511103]
theorem quernref13_Refuse.tab4 : rtab .any (opsOf Try.f26 4) = quernref13_Refuse.T4 := by kernel_rfl
theorem quernref13_Refuse.bits4 : waitsOk quernref13_Refuse.T4.2 quernref13_Refuse.B4 = true := by kernel_rfl
def quernref13_Refuse.T14 : Bool × List (List Nat × List Nat) := (true, [([], []), ([], []), ([0, 1], [0, 1]), ([2], [2]), ([3], [3]), ([], []), ([], []), ([5, 6], [5, 6]), ([7], [7]), ([8], [8]), ([4, 9], [4, 9])])
def quernref13_Refuse.B14 : List Nat := [0, 0, 3, 7, 15, 0, 0, 96, 224, 480, 1023]
theorem quernref13_Refuse.tab14 : rtab .any (opsOf Try.f26 14) = quernref13_Refuse.T14 := by kernel_rfl
theorem quernref13_Refuse.bits14 : waitsOk quernref13_Refuse.T14.2 quernref13_Refuse.B14 = true := by kernel_rfl
set_option maxHeartbeats 8000000 in
set_option maxRecDepth 100000 in
theorem quernref13_Refuse.calls (k : Nat) (A0 : Option Addr) (c0 : Nat) (l0 : List (S36)) (a1_0 : Int) (a1_1 : Int) (r : Int) (w : World) (hr0 : Kd.C k36 w A0 l0.length l0) (hc0 : l0.length ≤ c0) (h : quernref13_Refuse.f k l0 a1_0 a1_1 = some r) :
  Calls Try.prog 26 #[.slice A0 l0.length c0, .agg #[.int .i64 a1_0, .int .i64 a1_1]] w fun e w' => e = .returned (.int .i64 r) ∧ Below w.heap.size w w' := by
 have hu24 := Try.underlying24
 have HR0 := Aside0.mk hr0
 have HC0 := Aside0.mk hc0
 clear hr0 hc0
 have HB := Aside0.mk (Below.refl w.heap.size w)
 have H : (quernref13_Refuse.l0 k l0 0 a1_0 a1_1) = some r := h
 clear h
 have H' := Aside0.mk H
 clear H
 go_enter Try.func26, Try.ntmps26
 go_wp2_with (first | ((with_reducible refine gate_dst (N := 3) rfl ?_); refine box_event ?hg (N := 3) ?hd (cs := #[.int .i64 a1_0, .int .i64 a1_1]) (t := 24) ?hr ?_; (case hd => rfl); (case hg => rfl); (case hr => first | (go_simp; done) | (go_simp; rfl)); intro gb130 hg w3 hbox hb; have n0_ := Aside0.mk (below_step (by repeat (first | (with_reducible first | exact HB.out | apply below_alloc | apply pw_below_drewN | apply below_drew1) | exact HB.out)) hb); have n1_ := Aside0.mk (hbox); have n2_ := Aside0.mk ((by rw [hg]; exact (below_size (by repeat (first | (with_reducible first | exact HB.out | apply below_alloc | apply pw_below_drewN | apply below_drew1) | exact HB.out))) : w.heap.size ≤ gb130)); have n3_ := Aside0.mk ((by rw [hg]; exact (below_size (by repeat (first | (with_reducible first | exact HB.out | apply below_alloc | apply pw_below_drewN | apply below_drew1) | exact HB.out))) : w.heap.size ≤ gb130)); clear HB; have HB := n0_; have BK130 := n1_; have GW130 := n2_; have GE130 := n3_; clear n0_ n1_ n2_ n3_; clear hb hbox hg))
 go_loopg [5] k (fun kq v5 w' => ∃ (x5_1 : Int), v5 = .int .i64 x5_1 ∧ Aside0 (quernref13_Refuse.l0 kq l0 x5_1 a1_0 a1_1 = some r) ∧ Aside0 (kq ≤ k) ∧ Aside0 (w'.heap[gb130]? = some (.cells #[.int .i64 a1_0, .int .i64 a1_1] 24 (0, 0))) ∧ Aside0 (Below w.heap.size w w'))
 case atStart => exact ⟨(0), (by first | rfl | (simp; done) | (simp [*]; done)), H', ⟨Nat.le_refl _⟩, ⟨by (with_reducible repeat (first | refine blk_drewN ?_ _ | refine blk_drew ?_ | refine blk_alloc ?_ _)); exact BK130.out⟩, ⟨by repeat (first | (with_reducible first | exact HB.out | apply below_alloc | apply pw_below_drewN | apply below_drew1 | refine below_set ?_ GE130.out) | exact HB.out)⟩⟩
 case round =>
  clear H'
  try clear c2
  try clear p2
  obtain ⟨x5_1, rfl, HA, HK1, BK130, HB⟩ := hrel
  cases gk with
  | zero => exact absurd HA.out (by simp [quernref13_Refuse.l0])
  | succ k1 =>
   have H := HA.out
   clear HA
   simp only [quernref13_Refuse.l0] at H
   by_cases c4 : x5_1 < (l0.length : Int)
   ·rw [if_pos c4] at H
    have c4b0 : decide (x5_1 < (l0.length : Int)) = true := decide_eq_true c4
    clear c4
    by_cases c5 : 0 ≤ x5_1
    ·rw [if_pos c5] at H
     have c5b0 : decide (0 ≤ x5_1) = true := decide_eq_true c5
     clear c5
     replace H := Option.bind_eq_some_iff.mp H
     obtain ⟨t132, A60, H⟩ := H
     replace H : (if t132 = true then ((quernref13_Place.f ((rd_T36 l0 x5_1).f1.f0) ((rd_T36 l0 x5_1).f1.f1)).bind fun t134 => (if t134 = true then ((quernref13_Same.f ((rd_T36 l0 x5_1).f0.f0) ((rd_T36 l0 x5_1).f0.f1) a1_0 a1_1).bind fun t136 => (if t136 = true then (some 131) else ((quernref13_Same.f ((rd_T36 l0 x5_1).f1.f0) ((rd_T36 l0 x5_1).f1.f1) a1_0 a1_1).bind fun t138 => (if t138 = true then (some 131) else (quernref13_Refuse.l0 k1 l0 (wrap64 (x5_1 + 1)) a1_0 a1_1))))) else (if ((rd_T36 l0 x5_1).f1.f0) = 3 then ((quernref13_Same.f ((rd_T36 l0 x5_1).f0.f0) ((rd_T36 l0 x5_1).f0.f1) a1_0 a1_1).bind fun t141 => (if t141 = true then (some 131) else ((quernref13_Same.f ((rd_T36 l0 x5_1).f1.f0) ((rd_T36 l0 x5_1).f1.f1) a1_0 a1_1).bind fun t143 => (if t143 = true then (some 131) else (quernref13_Refuse.l0 k1 l0 (wrap64 (x5_1 + 1)) a1_0 a1_1))))) else (some 131)))) else (some 131)) = some r := H
     have A6 := Aside0.mk A60
     clear A60
     by_cases c7 : t132 = true
     ·subst c7
      have H1 : ((quernref13_Place.f ((rd_T36 l0 x5_1).f1.f0) ((rd_T36 l0 x5_1).f1.f1)).bind fun t134 => (if t134 = true then ((quernref13_Same.f ((rd_T36 l0 x5_1).f0.f0) ((rd_T36 l0 x5_1).f0.f1) a1_0 a1_1).bind fun t136 => (if t136 = true then (some 131) else ((quernref13_Same.f ((rd_T36 l0 x5_1).f1.f0) ((rd_T36 l0 x5_1).f1.f1) a1_0 a1_1).bind fun t138 => (if t138 = true then (some 131) else (quernref13_Refuse.l0 k1 l0 (wrap64 (x5_1 + 1)) a1_0 a1_1))))) else (if ((rd_T36 l0 x5_1).f1.f0) = 3 then ((quernref13_Same.f ((rd_T36 l0 x5_1).f0.f0) ((rd_T36 l0 x5_1).f0.f1) a1_0 a1_1).bind fun t141 => (if t141 = true then (some 131) else ((quernref13_Same.f ((rd_T36 l0 x5_1).f1.f0) ((rd_T36 l0 x5_1).f1.f1) a1_0 a1_1).bind fun t143 => (if t143 = true then (some 131) else (quernref13_Refuse.l0 k1 l0 (wrap64 (x5_1 + 1)) a1_0 a1_1))))) else (some 131)))) = some r := by rw [if_pos rfl] at H; exact H
      clear H
      have H := H1
      clear H1
      replace H := Option.bind_eq_some_iff.mp H
      obtain ⟨t134, A80, H⟩ := H
      replace H : (if t134 = true then ((quernref13_Same.f ((rd_T36 l0 x5_1).f0.f0) ((rd_T36 l0 x5_1).f0.f1) a1_0 a1_1).bind fun t136 => (if t136 = true then (some 131) else ((quernref13_Same.f ((rd_T36 l0 x5_1).f1.f0) ((rd_T36 l0 x5_1).f1.f1) a1_0 a1_1).bind fun t138 => (if t138 = true then (some 131) else (quernref13_Refuse.l0 k1 l0 (wrap64 (x5_1 + 1)) a1_0 a1_1))))) else (if ((rd_T36 l0 x5_1).f1.f0) = 3 then ((quernref13_Same.f ((rd_T36 l0 x5_1).f0.f0) ((rd_T36 l0 x5_1).f0.f1) a1_0 a1_1).bind fun t141 => (if t141 = true then (some 131) else ((quernref13_Same.f ((rd_T36 l0 x5_1).f1.f0) ((rd_T36 l0 x5_1).f1.f1) a1_0 a1_1).bind fun t143 => (if t143 = true then (some 131) else (quernref13_Refuse.l0 k1 l0 (wrap64 (x5_1 + 1)) a1_0 a1_1))))) else (some 131))) = some r := H
      have A8 := Aside0.mk A80
      clear A80
      by_cases c9 : t134 = true
      ·subst c9
       have H1 : ((quernref13_Same.f ((rd_T36 l0 x5_1).f0.f0) ((rd_T36 l0 x5_1).f0.f1) a1_0 a1_1).bind fun t136 => (if t136 = true then (some 131) else ((quernref13_Same.f ((rd_T36 l0 x5_1).f1.f0) ((rd_T36 l0 x5_1).f1.f1) a1_0 a1_1).bind fun t138 => (if t138 = true then (some 131) else (quernref13_Refuse.l0 k1 l0 (wrap64 (x5_1 + 1)) a1_0 a1_1))))) = some r := by rw [if_pos rfl] at H; exact H
       clear H
       have H := H1
       clear H1
       replace H := Option.bind_eq_some_iff.mp H
       obtain ⟨t136, A100, H⟩ := H
       replace H : (if t136 = true then (some 131) else ((quernref13_Same.f ((rd_T36 l0 x5_1).f1.f0) ((rd_T36 l0 x5_1).f1.f1) a1_0 a1_1).bind fun t138 => (if t138 = true then (some 131) else (quernref13_Refuse.l0 k1 l0 (wrap64 (x5_1 + 1)) a1_0 a1_1)))) = some r := H
       have A10 := Aside0.mk A100
       clear A100
       by_cases c11 : t136 = true
       ·subst c11
        have H1 : (some 131) = some r := by rw [if_pos rfl] at H; exact H
        clear H
        have H := H1
        clear H1
        obtain rfl := Option.some.inj H
        try go_wp2
        have n0_ := Aside0.mk (blk_drew BK130.out)
        have n1_ := Aside0.mk (below_drew1 HB.out)
        clear BK130
        clear HB
        have BK130 := n0_
        have HB := n1_
        clear n0_ n1_
        have p131 : 0 ≤ (x5_1 : Int) := of_decide_eq_true (by first | (with_reducible assumption) | assumption)
        have q131 : x5_1 < (l0.length : Int) := of_decide_eq_true (by first | (with_reducible assumption) | assumption)
        obtain ⟨ad131, e131, hx131_0, hx131_1, hx131_2, hx131_3⟩ := at_T36 HR0.out x5_1 p131 q131
        have hw131_3 := hx131_3
        have hw131_2 := hx131_2
        have hw131_1 := hx131_1
        have hw131_0 := hx131_0
        cases e131
        replace hx131_0 := cellA HB hx131_0
        replace hx131_1 := cellA HB hx131_1
        replace hx131_2 := cellA HB hx131_2
        replace hx131_3 := cellA HB hx131_3
        replace p131 := eq_true p131
        replace q131 := eq_true q131
        have p133 : 0 ≤ (x5_1 : Int) := of_decide_eq_true (by first | (with_reducible assumption) | assumption)
        have q133 : x5_1 < (l0.length : Int) := of_decide_eq_true (by first | (with_reducible assumption) | assumption)
        obtain ⟨ad133, e133, hx133_0, hx133_1, hx133_2, hx133_3⟩ := at_T36 HR0.out x5_1 p133 q133
        have hw133_3 := hx133_3
        have hw133_2 := hx133_2
        have hw133_1 := hx133_1
        have hw133_0 := hx133_0
        obtain rfl : ad131 = ad133 := (by injection e133)
        replace hx133_0 := cellA HB hx133_0
        replace hx133_1 := cellA HB hx133_1
        replace hx133_2 := cellA HB hx133_2
        replace hx133_3 := cellA HB hx133_3
        replace p133 := eq_true p133
        replace q133 := eq_true q133
        have p135 : 0 ≤ (x5_1 : Int) := of_decide_eq_true (by first | (with_reducible assumption) | assumption)
        have q135 : x5_1 < (l0.length : Int) := of_decide_eq_true (by first | (with_reducible assumption) | assumption)
        obtain ⟨ad135, e135, hx135_0, hx135_1, hx135_2, hx135_3⟩ := at_T36 HR0.out x5_1 p135 q135
        have hw135_3 := hx135_3
        have hw135_2 := hx135_2
        have hw135_1 := hx135_1
        have hw135_0 := hx135_0
        obtain rfl : ad131 = ad135 := (by injection e135)
        replace hx135_0 := cellA HB hx135_0
        replace hx135_1 := cellA HB hx135_1
        replace hx135_2 := cellA HB hx135_2
        replace hx135_3 := cellA HB hx135_3
        replace p135 := eq_true p135
        replace q135 := eq_true q135
        refine start_ (n := 43) (S := fun w' => w'.cell? ⟨gb130, 0, none⟩ = some (.int .i64 a1_0) ∧ w'.cell? ⟨gb130, 1, none⟩ = some (.int .i64 a1_1) ∧ w'.cell? (ad131.add ((x5_1).toNat * 4)) = some (.int .i64 ((rd_T36 l0 x5_1).f0.f0)) ∧ w'.cell? ⟨(ad131.add ((x5_1).toNat * 4)).block, (ad131.add ((x5_1).toNat * 4)).off + 1, none⟩ = some (.int .i64 ((rd_T36 l0 x5_1).f0.f1)) ∧ w'.cell? ⟨(ad131.add ((x5_1).toNat * 4)).block, (ad131.add ((x5_1).toNat * 4)).off + 2, none⟩ = some (.int .i64 ((rd_T36 l0 x5_1).f1.f0)) ∧ w'.cell? ⟨(ad131.add ((x5_1).toNat * 4)).block, (ad131.add ((x5_1).toNat * 4)).off + 3, none⟩ = some (.int .i64 ((rd_T36 l0 x5_1).f1.f1)) ∧ w'.cell? (ad131.add ((x5_1).toNat * 4)) = some (.int .i64 ((rd_T36 l0 x5_1).f0.f0)) ∧ w'.cell? ⟨(ad131.add ((x5_1).toNat * 4)).block, (ad131.add ((x5_1).toNat * 4)).off + 1, none⟩ = some (.int .i64 ((rd_T36 l0 x5_1).f0.f1)) ∧ w'.cell? ⟨(ad131.add ((x5_1).toNat * 4)).block, (ad131.add ((x5_1).toNat * 4)).off + 2, none⟩ = some (.int .i64 ((rd_T36 l0 x5_1).f1.f0)) ∧ w'.cell? ⟨(ad131.add ((x5_1).toNat * 4)).block, (ad131.add ((x5_1).toNat * 4)).off + 3, none⟩ = some (.int .i64 ((rd_T36 l0 x5_1).f1.f1)) ∧ w'.cell? (ad131.add ((x5_1).toNat * 4)) = some (.int .i64 ((rd_T36 l0 x5_1).f0.f0)) ∧ w'.cell? ⟨(ad131.add ((x5_1).toNat * 4)).block, (ad131.add ((x5_1).toNat * 4)).off + 1, none⟩ = some (.int .i64 ((rd_T36 l0 x5_1).f0.f1)) ∧ w'.cell? ⟨(ad131.add ((x5_1).toNat * 4)).block, (ad131.add ((x5_1).toNat * 4)).off + 2, none⟩ = some (.int .i64 ((rd_T36 l0 x5_1).f1.f0)) ∧ w'.cell? ⟨(ad131.add ((x5_1).toNat * 4)).block, (ad131.add ((x5_1).toNat * 4)).off + 3, none⟩ = some (.int .i64 ((rd_T36 l0 x5_1).f1.f1))) (ds := []) (bl 0 43) (by kernel_rfl) rfl rfl ⟨(blk_cell BK130.out 0).trans rfl, (blk_cell BK130.out 1).trans rfl, (cellA HB hw131_0), (cellA HB hw131_1), (cellA HB hw131_2), (cellA HB hw131_3), (cellA HB hw133_0), (cellA HB hw133_1), (cellA HB hw133_2), (cellA HB hw133_3), (cellA HB hw135_0), (cellA HB hw135_1), (cellA HB hw135_2), (cellA HB hw135_3)⟩ (fun hHeld => ?_); refine with_tabW quernref13_Refuse.tab4 quernref13_Refuse.bits4 (fun HT_ HW_ => ?_)
        generalize wr.drew = w12 at BK130 HB hx131_0 hx131_1 hx131_2 hx131_3 hx133_0 hx133_1 hx133_2 hx133_3 hx135_0 hx135_1 hx135_2 hx135_3 hHeld ⊢
        refine pure_ (i := 0) (N := some 14) (v := ?_) (a' := ?_) (bl 1 43) rfl rfl (any_of HT_.out (by kernel_rfl)) (fun _ _ _ h => h) (Or.inl ⟨by rfl, ?_⟩) ?_ ?_
        rotate_left
        ·intro w'
         go_simp
         with_reducible rfl
        rotate_left
        ·simp only [Act.put, List.setIfInBounds_toArray, List.set_cons_zero, List.set_cons_succ, i64_w, i32_w]
         rfl
        refine pure_ (i := 1) (N := some 15) (v := ?_) (a' := ?_) (bl 2 43) rfl rfl (any_of HT_.out (by kernel_rfl)) (fun _ _ _ h => h) (Or.inl ⟨by rfl, ?_⟩) ?_ ?_
        rotate_left
        ·intro w'
         go_simp
         with_reducible rfl
        rotate_left
        ·simp only [Act.put, List.setIfInBounds_toArray, List.set_cons_zero, List.set_cons_succ, i64_w, i32_w]
         rfl
        refine pure_ (i := 2) (N := some 16) (v := ?_) (a' := ?_) (bl 3 43) rfl rfl (any_of HT_.out (by kernel_rfl)) (fun _ _ _ h => h) (Or.inl ⟨by rfl, ?_⟩) ?_ ?_
        rotate_left
        ·intro w'
         go_simp
         with_reducible rfl
        rotate_left
        ·simp only [Act.put, List.setIfInBounds_toArray, List.set_cons_zero, List.set_cons_succ, i64_w, i32_w]
         rfl
        refine pure_ (i := 3) (N := some 17) (v := ?_) (a' := ?_) (bl 4 43) rfl rfl (any_of HT_.out (by kernel_rfl)) (fun _ _ _ h => h) (Or.inl ⟨by rfl, ?_⟩) ?_ ?_
        rotate_left
        ·intro w'
         go_simp
         with_reducible rfl
        rotate_left
        ·simp only [Act.put, List.setIfInBounds_toArray, List.set_cons_zero, List.set_cons_succ, i64_w, i32_w]
         rfl
        refine take_ (i := 4) (N := some 18) (v := ?_) (a' := ?_) (bl 5 43) rfl rfl (take_ofW HT_.out HW_.out (by kernel_rfl)) (fun _ _ _ h => h) (Or.inl ⟨by rfl, ?_⟩) hHeld ?_ ?_
        rotate_left
        ·rintro w' ⟨s0, s1, s2, s3, s4, s5, s6, s7, s8, s9, s10, s11, s12, s13⟩
         go_simp
         with_reducible rfl
        rotate_left
        ·simp only [Act.put, List.setIfInBounds_toArray, List.set_cons_zero, List.set_cons_succ, i64_w, i32_w]
         rfl
        refine one_ (i := 5) (N := some 19) (bl 6 43) rfl rfl (one_of HT_.out (by kernel_rfl)) (by decide) (fun K hK => ?_)
        refine goes_ Try.func35 (by kernel_rfl) rfl #[.agg #[.int .i64 ((rd_T36 l0 x5_1).f0.f0), .int .i64 ((rd_T36 l0 x5_1).f0.f1)]] (by rfl) rfl rfl (by (try simp only [List.map_toArray, List.map_cons, List.map_nil]); first | done | rfl | (simp only [List.length_drop, List.length_take]; rfl)) ?_
        with_reducible refine (quernref13_Place.calls ((rd_T36 l0 x5_1).f0.f0) ((rd_T36 l0 x5_1).f0.f1) true _ A6.out).mono ?_
        rintro e w13 ⟨rfl, hb⟩
        refine ⟨_, rfl, ?_⟩
        have n0_ := Aside0.mk (blk_below (g := gb130) (o := .cells #[.int .i64 a1_0, .int .i64 a1_1] 24 (0, 0)) (by (with_reducible repeat (first | refine blk_drewN ?_ _ | refine blk_drew ?_ | refine blk_alloc ?_ _)); exact BK130.out) hb)
        have n1_ := Aside0.mk (below_step (by repeat (first | (with_reducible first | exact HB.out | apply below_alloc | apply pw_below_drewN | apply below_drew1 | refine below_set ?_ GE130.out) | exact HB.out)) hb)
        clear BK130
        clear HB
        have BK130 := n0_
        have HB := n1_
        clear n0_ n1_
        (try clear hb)
        (try clear hb2)
        (try clear hk)
        (try clear hi)
        refine hK.out _ _ ⟨(blk_cell BK130.out 0).trans rfl, (blk_cell BK130.out 1).trans rfl, (cellA HB hw131_0), (cellA HB hw131_1), (cellA HB hw131_2), (cellA HB hw131_3), (cellA HB hw133_0), (cellA HB hw133_1), (cellA HB hw133_2), (cellA HB hw133_3), (cellA HB hw135_0), (cellA HB hw135_1), (cellA HB hw135_2), (cellA HB hw135_3)⟩ (fun hHeld => ?_)
        clear hK K
        refine norm_ (a' := ?_) ?_ ?_
        rotate_left
        ·show Act.put _ (some 19) _ = _
         simp only [Act.put, List.setIfInBounds_toArray, List.set_cons_zero, List.set_cons_succ, i64_w, i32_w]
         rfl
        refine pure_ (i := 6) (N := some 20) (v := ?_) (a' := ?_) (bl 7 43) rfl rfl (any_of HT_.out (by kernel_rfl)) (fun _ _ _ h => h) (Or.inl ⟨by rfl, ?_⟩) ?_ ?_
        rotate_left
        ·intro w'
         go_simp
         with_reducible rfl
        rotate_left
        ·simp only [Act.put, List.setIfInBounds_toArray, List.set_cons_zero, List.set_cons_succ, i64_w, i32_w]
         rfl
        refine pure_ (i := 7) (N := some 21) (v := ?_) (a' := ?_) (bl 8 43) rfl rfl (any_of HT_.out (by kernel_rfl)) (fun _ _ _ h => h) (Or.inl ⟨by rfl, ?_⟩) ?_ ?_
        rotate_left
        ·intro w'
         go_simp
         with_reducible rfl
        rotate_left
        ·simp only [Act.put, List.setIfInBounds_toArray, List.set_cons_zero, List.set_cons_succ, i64_w, i32_w]
         rfl
        refine pure_ (i := 8) (N := some 22) (v := ?_) (a' := ?_) (bl 9 43) rfl rfl (any_of HT_.out (by kernel_rfl)) (fun _ _ _ h => h) (Or.inl ⟨by rfl, ?_⟩) ?_ ?_
        rotate_left
        ·intro w'
         go_simp
         with_reducible rfl
        rotate_left
        ·simp only [Act.put, List.setIfInBounds_toArray, List.set_cons_zero, List.set_cons_succ, i64_w, i32_w]
         rfl
        refine pure_ (i := 9) (N := some 23) (v := ?_) (a' := ?_) (bl 10 43) rfl rfl (any_of HT_.out (by kernel_rfl)) (fun _ _ _ h => h) (Or.inl ⟨by rfl, ?_⟩) ?_ ?_
        rotate_left
        ·intro w'
         go_simp
         with_reducible rfl
        rotate_left
        ·simp only [Act.put, List.setIfInBounds_toArray, List.set_cons_zero, List.set_cons_succ, i64_w, i32_w]
         rfl
        refine pure_ (i := 10) (N := some 24) (v := ?_) (a' := ?_) (bl 11 43) rfl rfl (any_of HT_.out (by kernel_rfl)) (fun _ _ _ h => h) (Or.inl ⟨by rfl, ?_⟩) ?_ ?_
        rotate_left
        ·intro w'
         go_simp
         with_reducible rfl
        rotate_left
        ·simp only [Act.put, List.setIfInBounds_toArray, List.set_cons_zero, List.set_cons_succ, i64_w, i32_w]
         rfl
        refine pure_ (i := 11) (N := some 25) (v := ?_) (a' := ?_) (bl 12 43) rfl rfl (any_of HT_.out (by kernel_rfl)) (fun _ _ _ h => h) (Or.inl ⟨by rfl, ?_⟩) ?_ ?_
        rotate_left
        ·intro w'
         go_simp
         with_reducible rfl
        rotate_left
        ·simp only [Act.put, List.setIfInBounds_toArray, List.set_cons_zero, List.set_cons_succ, i64_w, i32_w]
         rfl
        refine take_ (i := 12) (N := some 26) (v := ?_) (a' := ?_) (bl 13 43) rfl rfl (take_ofW HT_.out HW_.out (by kernel_rfl)) (fun _ _ _ h => h) (Or.inl ⟨by rfl, ?_⟩) hHeld ?_ ?_
        rotate_left
        ·rintro w' ⟨s0, s1, s2, s3, s4, s5, s6, s7, s8, s9, s10, s11, s12, s13⟩
         go_simp
         with_reducible rfl
        rotate_left
        ·simp only [Act.put, List.setIfInBounds_toArray, List.set_cons_zero, List.set_cons_succ, i64_w, i32_w]
         rfl
        refine one_ (i := 13) (N := some 27) (bl 14 43) rfl rfl (one_of HT_.out (by kernel_rfl)) (by decide) (fun K hK => ?_)
        refine goes_ Try.func35 (by kernel_rfl) rfl #[.agg #[.int .i64 ((rd_T36 l0 x5_1).f1.f0), .int .i64 ((rd_T36 l0 x5_1).f1.f1)]] (by rfl) rfl rfl (by (try simp only [List.map_toArray, List.map_cons, List.map_nil]); first | done | rfl | (simp only [List.length_drop, List.length_take]; rfl)) ?_
        with_reducible refine (quernref13_Place.calls ((rd_T36 l0 x5_1).f1.f0) ((rd_T36 l0 x5_1).f1.f1) true _ A8.out).mono ?_
        rintro e w14 ⟨rfl, hb⟩
        refine ⟨_, rfl, ?_⟩
        have n0_ := Aside0.mk (blk_below (g := gb130) (o := .cells #[.int .i64 a1_0, .int .i64 a1_1] 24 (0, 0)) (by (with_reducible repeat (first | refine blk_drewN ?_ _ | refine blk_drew ?_ | refine blk_alloc ?_ _)); exact BK130.out) hb)
        have n1_ := Aside0.mk (below_step (by repeat (first | (with_reducible first | exact HB.out | apply below_alloc | apply pw_below_drewN | apply below_drew1 | refine below_set ?_ GE130.out) | exact HB.out)) hb)
        clear BK130
        clear HB
        have BK130 := n0_
        have HB := n1_
        clear n0_ n1_
        (try clear hb)
        (try clear hb2)
        (try clear hk)
        (try clear hi)
        refine hK.out _ _ ⟨(blk_cell BK130.out 0).trans rfl, (blk_cell BK130.out 1).trans rfl, (cellA HB hw131_0), (cellA HB hw131_1), (cellA HB hw131_2), (cellA HB hw131_3), (cellA HB hw133_0), (cellA HB hw133_1), (cellA HB hw133_2), (cellA HB hw133_3), (cellA HB hw135_0), (cellA HB hw135_1), (cellA HB hw135_2), (cellA HB hw135_3)⟩ (fun hHeld => ?_)
        clear hK K
        refine norm_ (a' := ?_) ?_ ?_
        rotate_left
        ·show Act.put _ (some 27) _ = _
         simp only [Act.put, List.setIfInBounds_toArray, List.set_cons_zero, List.set_cons_succ, i64_w, i32_w]
         rfl
        refine pure_ (i := 14) (N := some 28) (v := ?_) (a' := ?_) (bl 15 43) rfl rfl (any_of HT_.out (by kernel_rfl)) (fun _ _ _ h => h) (Or.inl ⟨by rfl, ?_⟩) ?_ ?_
        rotate_left
        ·intro w'
         go_simp
         with_reducible rfl
        rotate_left
        ·simp only [Act.put, List.setIfInBounds_toArray, List.set_cons_zero, List.set_cons_succ, i64_w, i32_w]
         rfl
        refine pure_ (i := 15) (N := some 29) (v := ?_) (a' := ?_) (bl 16 43) rfl rfl (any_of HT_.out (by kernel_rfl)) (fun _ _ _ h => h) (Or.inl ⟨by rfl, ?_⟩) ?_ ?_
        rotate_left
        ·intro w'
         go_simp
         with_reducible rfl
        rotate_left
        ·simp only [Act.put, List.setIfInBounds_toArray, List.set_cons_zero, List.set_cons_succ, i64_w, i32_w]
         rfl
        refine pure_ (i := 16) (N := some 30) (v := undef) (a' := ?_) (bl 17 43) rfl rfl (any_of HT_.out (by kernel_rfl)) (fun _ _ _ h => h) (Or.inr ⟨by rfl, rfl⟩) ?_ ?_
        rotate_left
        ·simp only [Act.put, List.setIfInBounds_toArray, List.set_cons_zero, List.set_cons_succ, i64_w, i32_w]
         rfl
        refine pure_ (i := 17) (N := some 31) (v := undef) (a' := ?_) (bl 18 43) rfl rfl (any_of HT_.out (by kernel_rfl)) (fun _ _ _ h => h) (Or.inr ⟨by rfl, rfl⟩) ?_ ?_
        rotate_left
        ·simp only [Act.put, List.setIfInBounds_toArray, List.set_cons_zero, List.set_cons_succ, i64_w, i32_w]
         rfl
        refine pure_ (i := 18) (N := some 32) (v := undef) (a' := ?_) (bl 19 43) rfl rfl (any_of HT_.out (by kernel_rfl)) (fun _ _ _ h => h) (Or.inr ⟨by rfl, rfl⟩) ?_ ?_
        rotate_left
        ·simp only [Act.put, List.setIfInBounds_toArray, List.set_cons_zero, List.set_cons_succ, i64_w, i32_w]
         rfl
        refine pure_ (i := 19) (N := some 33) (v := undef) (a' := ?_) (bl 20 43) rfl rfl (any_of HT_.out (by kernel_rfl)) (fun _ _ _ h => h) (Or.inr ⟨by rfl, rfl⟩) ?_ ?_
        rotate_left
        ·simp only [Act.put, List.setIfInBounds_toArray, List.set_cons_zero, List.set_cons_succ, i64_w, i32_w]
         rfl
        refine pure_ (i := 20) (N := some 34) (v := undef) (a' := ?_) (bl 21 43) rfl rfl (any_of HT_.out (by kernel_rfl)) (fun _ _ _ h => h) (Or.inr ⟨by rfl, rfl⟩) ?_ ?_
        rotate_left
        ·simp only [Act.put, List.setIfInBounds_toArray, List.set_cons_zero, List.set_cons_succ, i64_w, i32_w]
         rfl
        refine pure_ (i := 21) (N := some 35) (v := undef) (a' := ?_) (bl 22 43) rfl rfl (any_of HT_.out (by kernel_rfl)) (fun _ _ _ h => h) (Or.inr ⟨by rfl, rfl⟩) ?_ ?_
        rotate_left
        ·simp only [Act.put, List.setIfInBounds_toArray, List.set_cons_zero, List.set_cons_succ, i64_w, i32_w]
         rfl
        refine pure_ (i := 22) (N := some 36) (v := undef) (a' := ?_) (bl 23 43) rfl rfl (any_of HT_.out (by kernel_rfl)) (fun _ _ _ h => h) (Or.inr ⟨by rfl, rfl⟩) ?_ ?_
        rotate_left
        ·simp only [Act.put, List.setIfInBounds_toArray, List.set_cons_zero, List.set_cons_succ, i64_w, i32_w]
         rfl
        refine pure_ (i := 23) (N := some 37) (v := ?_) (a' := ?_) (bl 24 43) rfl rfl (any_of HT_.out (by kernel_rfl)) (fun _ _ _ h => h) (Or.inl ⟨by rfl, ?_⟩) ?_ ?_
        rotate_left
        ·intro w'
         go_simp
         with_reducible rfl
        rotate_left
        ·simp only [Act.put, List.setIfInBounds_toArray, List.set_cons_zero, List.set_cons_succ, i64_w, i32_w]
         rfl
        refine pure_ (i := 24) (N := some 38) (v := ?_) (a' := ?_) (bl 25 43) rfl rfl (any_of HT_.out (by kernel_rfl)) (fun _ _ _ h => h) (Or.inl ⟨by rfl, ?_⟩) ?_ ?_
        rotate_left
        ·intro w'
         go_simp
         with_reducible rfl
        rotate_left
        ·simp only [Act.put, List.setIfInBounds_toArray, List.set_cons_zero, List.set_cons_succ, i64_w, i32_w]
         rfl
        refine pure_ (i := 25) (N := some 39) (v := ?_) (a' := ?_) (bl 26 43) rfl rfl (any_of HT_.out (by kernel_rfl)) (fun _ _ _ h => h) (Or.inl ⟨by rfl, ?_⟩) ?_ ?_
        rotate_left
        ·intro w'
         go_simp
         with_reducible rfl
        rotate_left
        ·simp only [Act.put, List.setIfInBounds_toArray, List.set_cons_zero, List.set_cons_succ, i64_w, i32_w]
         rfl
        refine pure_ (i := 26) (N := some 40) (v := ?_) (a' := ?_) (bl 27 43) rfl rfl (any_of HT_.out (by kernel_rfl)) (fun _ _ _ h => h) (Or.inl ⟨by rfl, ?_⟩) ?_ ?_
        rotate_left
        ·intro w'
         go_simp
         with_reducible rfl
        rotate_left
        ·simp only [Act.put, List.setIfInBounds_toArray, List.set_cons_zero, List.set_cons_succ, i64_w, i32_w]
         rfl
        refine pure_ (i := 27) (N := some 41) (v := ?_) (a' := ?_) (bl 28 43) rfl rfl (any_of HT_.out (by kernel_rfl)) (fun _ _ _ h => h) (Or.inl ⟨by rfl, ?_⟩) ?_ ?_
        rotate_left
        ·intro w'
         go_simp
         with_reducible rfl
        rotate_left
        ·simp only [Act.put, List.setIfInBounds_toArray, List.set_cons_zero, List.set_cons_succ, i64_w, i32_w]
         rfl
        refine pure_ (i := 28) (N := some 42) (v := ?_) (a' := ?_) (bl 29 43) rfl rfl (any_of HT_.out (by kernel_rfl)) (fun _ _ _ h => h) (Or.inl ⟨by rfl, ?_⟩) ?_ ?_
        rotate_left
        ·intro w'
         go_simp
         with_reducible rfl
        rotate_left
        ·simp only [Act.put, List.setIfInBounds_toArray, List.set_cons_zero, List.set_cons_succ, i64_w, i32_w]
         rfl
        refine pure_ (i := 29) (N := some 43) (v := ?_) (a' := ?_) (bl 30 43) rfl rfl (any_of HT_.out (by kernel_rfl)) (fun _ _ _ h => h) (Or.inl ⟨by rfl, ?_⟩) ?_ ?_
        rotate_left
        ·intro w'
         go_simp
         with_reducible rfl
        rotate_left
        ·simp only [Act.put, List.setIfInBounds_toArray, List.set_cons_zero, List.set_cons_succ, i64_w, i32_w]
         rfl
        refine take_ (i := 30) (N := some 44) (v := ?_) (a' := ?_) (bl 31 43) rfl rfl (take_ofW HT_.out HW_.out (by kernel_rfl)) (fun _ _ _ h => h) (Or.inl ⟨by rfl, ?_⟩) hHeld ?_ ?_
        rotate_left
        ·rintro w' ⟨s0, s1, s2, s3, s4, s5, s6, s7, s8, s9, s10, s11, s12, s13⟩
         go_simp
         with_reducible rfl
        rotate_left
        ·simp only [Act.put, List.setIfInBounds_toArray, List.set_cons_zero, List.set_cons_succ, i64_w, i32_w]
         rfl
        refine take_ (i := 31) (N := some 45) (v := ?_) (a' := ?_) (bl 32 43) rfl rfl (take_ofW HT_.out HW_.out (by kernel_rfl)) (fun _ _ _ h => h) (Or.inl ⟨by rfl, ?_⟩) hHeld ?_ ?_
        rotate_left
        ·rintro w' ⟨s0, s1, s2, s3, s4, s5, s6, s7, s8, s9, s10, s11, s12, s13⟩
         go_simp
         with_reducible rfl
        rotate_left
        ·simp only [Act.put, List.setIfInBounds_toArray, List.set_cons_zero, List.set_cons_succ, i64_w, i32_w]
         rfl
        refine one_ (i := 32) (N := some 46) (bl 33 43) rfl rfl (one_of HT_.out (by kernel_rfl)) (by decide) (fun K hK => ?_)
        refine goes_ Try.func27 (by kernel_rfl) rfl #[.agg #[.int .i64 ((rd_T36 l0 x5_1).f0.f0), .int .i64 ((rd_T36 l0 x5_1).f0.f1)], .agg #[.int .i64 a1_0, .int .i64 a1_1]] (by rfl) rfl rfl (by (try simp only [List.map_toArray, List.map_cons, List.map_nil]); first | done | rfl | (simp only [List.length_drop, List.length_take]; rfl)) ?_
        with_reducible refine (quernref13_Same.calls ((rd_T36 l0 x5_1).f0.f0) ((rd_T36 l0 x5_1).f0.f1) a1_0 a1_1 true _ A10.out).mono ?_
        rintro e w15 ⟨rfl, hb⟩
        refine ⟨_, rfl, ?_⟩
        have n0_ := Aside0.mk (blk_below (g := gb130) (o := .cells #[.int .i64 a1_0, .int .i64 a1_1] 24 (0, 0)) (by (with_reducible repeat (first | refine blk_drewN ?_ _ | refine blk_drew ?_ | refine blk_alloc ?_ _)); exact BK130.out) hb)
        have n1_ := Aside0.mk (below_step (by repeat (first | (with_reducible first | exact HB.out | apply below_alloc | apply pw_below_drewN | apply below_drew1 | refine below_set ?_ GE130.out) | exact HB.out)) hb)
        clear BK130
        clear HB
        have BK130 := n0_
        have HB := n1_
        clear n0_ n1_
        (try clear hb)
        (try clear hb2)
        (try clear hk)
        (try clear hi)
        refine hK.out _ _ ⟨(blk_cell BK130.out 0).trans rfl, (blk_cell BK130.out 1).trans rfl, (cellA HB hw131_0), (cellA HB hw131_1), (cellA HB hw131_2), (cellA HB hw131_3), (cellA HB hw133_0), (cellA HB hw133_1), (cellA HB hw133_2), (cellA HB hw133_3), (cellA HB hw135_0), (cellA HB hw135_1), (cellA HB hw135_2), (cellA HB hw135_3)⟩ (fun hHeld => ?_)
        clear hK K
        refine norm_ (a' := ?_) ?_ ?_
        rotate_left
        ·show Act.put _ (some 46) _ = _
         simp only [Act.put, List.setIfInBounds_toArray, List.set_cons_zero, List.set_cons_succ, i64_w, i32_w]
         rfl
        refine pure_ (i := 33) (N := some 47) (v := ?_) (a' := ?_) (bl 34 43) rfl rfl (any_of HT_.out (by kernel_rfl)) (fun _ _ _ h => h) (Or.inl ⟨by rfl, ?_⟩) ?_ ?_
        rotate_left
        ·intro w'
         go_simp
         with_reducible rfl
        rotate_left
        ·simp only [Act.put, List.setIfInBounds_toArray, List.set_cons_zero, List.set_cons_succ, i64_w, i32_w]
         rfl
        refine pure_ (i := 34) (N := some 48) (v := ?_) (a' := ?_) (bl 35 43) rfl rfl (any_of HT_.out (by kernel_rfl)) (fun _ _ _ h => h) (Or.inl ⟨by rfl, ?_⟩) ?_ ?_
        rotate_left
        ·intro w'
         go_simp
         with_reducible rfl
        rotate_left
        ·simp only [Act.put, List.setIfInBounds_toArray, List.set_cons_zero, List.set_cons_succ, i64_w, i32_w]
         rfl
        refine pure_ (i := 35) (N := some 49) (v := undef) (a' := ?_) (bl 36 43) rfl rfl (any_of HT_.out (by kernel_rfl)) (fun _ _ _ h => h) (Or.inr ⟨by rfl, rfl⟩) ?_ ?_
        rotate_left
        ·simp only [Act.put, List.setIfInBounds_toArray, List.set_cons_zero, List.set_cons_succ, i64_w, i32_w]
         rfl
        refine pure_ (i := 36) (N := some 50) (v := undef) (a' := ?_) (bl 37 43) rfl rfl (any_of HT_.out (by kernel_rfl)) (fun _ _ _ h => h) (Or.inr ⟨by rfl, rfl⟩) ?_ ?_
        rotate_left
        ·simp only [Act.put, List.setIfInBounds_toArray, List.set_cons_zero, List.set_cons_succ, i64_w, i32_w]
         rfl
        refine pure_ (i := 37) (N := some 51) (v := undef) (a' := ?_) (bl 38 43) rfl rfl (any_of HT_.out (by kernel_rfl)) (fun _ _ _ h => h) (Or.inr ⟨by rfl, rfl⟩) ?_ ?_
        rotate_left
        ·simp only [Act.put, List.setIfInBounds_toArray, List.set_cons_zero, List.set_cons_succ, i64_w, i32_w]
         rfl
        refine pure_ (i := 38) (N := some 52) (v := undef) (a' := ?_) (bl 39 43) rfl rfl (any_of HT_.out (by kernel_rfl)) (fun _ _ _ h => h) (Or.inr ⟨by rfl, rfl⟩) ?_ ?_
        rotate_left
        ·simp only [Act.put, List.setIfInBounds_toArray, List.set_cons_zero, List.set_cons_succ, i64_w, i32_w]
         rfl
        refine pure_ (i := 39) (N := some 53) (v := undef) (a' := ?_) (bl 40 43) rfl rfl (any_of HT_.out (by kernel_rfl)) (fun _ _ _ h => h) (Or.inr ⟨by rfl, rfl⟩) ?_ ?_
        rotate_left
        ·simp only [Act.put, List.setIfInBounds_toArray, List.set_cons_zero, List.set_cons_succ, i64_w, i32_w]
         rfl
        refine pure_ (i := 40) (N := some 54) (v := undef) (a' := ?_) (bl 41 43) rfl rfl (any_of HT_.out (by kernel_rfl)) (fun _ _ _ h => h) (Or.inr ⟨by rfl, rfl⟩) ?_ ?_
        rotate_left
        ·simp only [Act.put, List.setIfInBounds_toArray, List.set_cons_zero, List.set_cons_succ, i64_w, i32_w]
         rfl
        refine pure_ (i := 41) (N := some 55) (v := undef) (a' := ?_) (bl 42 43) rfl rfl (any_of HT_.out (by kernel_rfl)) (fun _ _ _ h => h) (Or.inr ⟨by rfl, rfl⟩) ?_ ?_
        rotate_left
        ·simp only [Act.put, List.setIfInBounds_toArray, List.set_cons_zero, List.set_cons_succ, i64_w, i32_w]
         rfl
        refine pure_ (i := 42) (N := some 56) (v := ?_) (a' := ?_) (bl 43 43) rfl rfl (any_of HT_.out (by kernel_rfl)) (fun _ _ _ h => h) (Or.inl ⟨by rfl, ?_⟩) ?_ ?_
        rotate_left
        ·intro w'
         go_simp
         with_reducible rfl
        rotate_left
        ·simp only [Act.put, List.setIfInBounds_toArray, List.set_cons_zero, List.set_cons_succ, i64_w, i32_w]
         rfl
        refine done_ (done_of HT_.out (by kernel_rfl)) ?_
        try go_wp2
        go_ret
        exact ⟨by first | rfl | (simp [errW_none, errW_some] <;> rfl) | (simp [*, errW_none, errW_some] <;> rfl), by repeat (first | (with_reducible first | exact HB.out | apply below_alloc | apply pw_below_drewN | apply below_drew1 | refine below_set ?_ GE130.out) | exact HB.out)⟩
       ·replace c11 := Bool.eq_false_iff.mpr c11
        subst c11
        have H1 : ((quernref13_Same.f ((rd_T36 l0 x5_1).f1.f0) ((rd_T36 l0 x5_1).f1.f1) a1_0 a1_1).bind fun t138 => (if t138 = true then (some 131) else (quernref13_Refuse.l0 k1 l0 (wrap64 (x5_1 + 1)) a1_0 a1_1))) = some r := by rw [if_neg (show ¬ (false = true) by decide)] at H; exact H
        clear H
        have H := H1
        clear H1
        replace H := Option.bind_eq_some_iff.mp H
        obtain ⟨t138, A160, H⟩ := H
        replace H : (if t138 = true then (some 131) else (quernref13_Refuse.l0 k1 l0 (wrap64 (x5_1 + 1)) a1_0 a1_1)) = some r := H
        have A16 := Aside0.mk A160
        clear A160
        by_cases c17 : t138 = true
        ·subst c17
         have H1 : (some 131) = some r := by rw [if_pos rfl] at H; exact H
         clear H
         have H := H1
         clear H1
         obtain rfl := Option.some.inj H
         try go_wp2
         have n0_ := Aside0.mk (blk_drew BK130.out)
         have n1_ := Aside0.mk (below_drew1 HB.out)
         clear BK130
         clear HB
         have BK130 := n0_
         have HB := n1_
         clear n0_ n1_
         have p131 : 0 ≤ (x5_1 : Int) := of_decide_eq_true (by first | (with_reducible assumption) | assumption)
         have q131 : x5_1 < (l0.length : Int) := of_decide_eq_true (by first | (with_reducible assumption) | assumption)
         obtain ⟨ad131, e131, hx131_0, hx131_1, hx131_2, hx131_3⟩ := at_T36 HR0.out x5_1 p131 q131
         have hw131_3 := hx131_3
         have hw131_2 := hx131_2
         have hw131_1 := hx131_1
         have hw131_0 := hx131_0
         cases e131
         replace hx131_0 := cellA HB hx131_0
         replace hx131_1 := cellA HB hx131_1
         replace hx131_2 := cellA HB hx131_2
         replace hx131_3 := cellA HB hx131_3
         replace p131 := eq_true p131
         replace q131 := eq_true q131
         have p133 : 0 ≤ (x5_1 : Int) := of_decide_eq_true (by first | (with_reducible assumption) | assumption)
         have q133 : x5_1 < (l0.length : Int) := of_decide_eq_true (by first | (with_reducible assumption) | assumption)
         obtain ⟨ad133, e133, hx133_0, hx133_1, hx133_2, hx133_3⟩ := at_T36 HR0.out x5_1 p133 q133
         have hw133_3 := hx133_3
         have hw133_2 := hx133_2
         have hw133_1 := hx133_1
         have hw133_0 := hx133_0
         obtain rfl : ad131 = ad133 := (by injection e133)
         replace hx133_0 := cellA HB hx133_0
         replace hx133_1 := cellA HB hx133_1
         replace hx133_2 := cellA HB hx133_2
         replace hx133_3 := cellA HB hx133_3
         replace p133 := eq_true p133
         replace q133 := eq_true q133
         have p135 : 0 ≤ (x5_1 : Int) := of_decide_eq_true (by first | (with_reducible assumption) | assumption)
         have q135 : x5_1 < (l0.length : Int) := of_decide_eq_true (by first | (with_reducible assumption) | assumption)
         obtain ⟨ad135, e135, hx135_0, hx135_1, hx135_2, hx135_3⟩ := at_T36 HR0.out x5_1 p135 q135
         have hw135_3 := hx135_3
         have hw135_2 := hx135_2
         have hw135_1 := hx135_1
         have hw135_0 := hx135_0
         obtain rfl : ad131 = ad135 := (by injection e135)
         replace hx135_0 := cellA HB hx135_0
         replace hx135_1 := cellA HB hx135_1
         replace hx135_2 := cellA HB hx135_2
         replace hx135_3 := cellA HB hx135_3
         replace p135 := eq_true p135
         replace q135 := eq_true q135
         have p137 : 0 ≤ (x5_1 : Int) := of_decide_eq_true (by first | (with_reducible assumption) | assumption)
         have q137 : x5_1 < (l0.length : Int) := of_decide_eq_true (by first | (with_reducible assumption) | assumption)
         obtain ⟨ad137, e137, hx137_0, hx137_1, hx137_2, hx137_3⟩ := at_T36 HR0.out x5_1 p137 q137
         have hw137_3 := hx137_3
         have hw137_2 := hx137_2
         have hw137_1 := hx137_1
         have hw137_0 := hx137_0
         obtain rfl : ad131 = ad137 := (by injection e137)
         replace hx137_0 := cellA HB hx137_0
         replace hx137_1 := cellA HB hx137_1
         replace hx137_2 := cellA HB hx137_2
         replace hx137_3 := cellA HB hx137_3
         replace p137 := eq_true p137
         replace q137 := eq_true q137
         refine start_ (n := 43) (S := fun w' => w'.cell? ⟨gb130, 0, none⟩ = some (.int .i64 a1_0) ∧ w'.cell? ⟨gb130, 1, none⟩ = some (.int .i64 a1_1) ∧ w'.cell? (ad131.add ((x5_1).toNat * 4)) = some (.int .i64 ((rd_T36 l0 x5_1).f0.f0)) ∧ w'.cell? ⟨(ad131.add ((x5_1).toNat * 4)).block, (ad131.add ((x5_1).toNat * 4)).off + 1, none⟩ = some (.int .i64 ((rd_T36 l0 x5_1).f0.f1)) ∧ w'.cell? ⟨(ad131.add ((x5_1).toNat * 4)).block, (ad131.add ((x5_1).toNat * 4)).off + 2, none⟩ = some (.int .i64 ((rd_T36 l0 x5_1).f1.f0)) ∧ w'.cell? ⟨(ad131.add ((x5_1).toNat * 4)).block, (ad131.add ((x5_1).toNat * 4)).off + 3, none⟩ = some (.int .i64 ((rd_T36 l0 x5_1).f1.f1)) ∧ w'.cell? (ad131.add ((x5_1).toNat * 4)) = some (.int .i64 ((rd_T36 l0 x5_1).f0.f0)) ∧ w'.cell? ⟨(ad131.add ((x5_1).toNat * 4)).block, (ad131.add ((x5_1).toNat * 4)).off + 1, none⟩ = some (.int .i64 ((rd_T36 l0 x5_1).f0.f1)) ∧ w'.cell? ⟨(ad131.add ((x5_1).toNat * 4)).block, (ad131.add ((x5_1).toNat * 4)).off + 2, none⟩ = some (.int .i64 ((rd_T36 l0 x5_1).f1.f0)) ∧ w'.cell? ⟨(ad131.add ((x5_1).toNat * 4)).block, (ad131.add ((x5_1).toNat * 4)).off + 3, none⟩ = some (.int .i64 ((rd_T36 l0 x5_1).f1.f1)) ∧ w'.cell? (ad131.add ((x5_1).toNat * 4)) = some (.int .i64 ((rd_T36 l0 x5_1).f0.f0)) ∧ w'.cell? ⟨(ad131.add ((x5_1).toNat * 4)).block, (ad131.add ((x5_1).toNat * 4)).off + 1, none⟩ = some (.int .i64 ((rd_T36 l0 x5_1).f0.f1)) ∧ w'.cell? ⟨(ad131.add ((x5_1).toNat * 4)).block, (ad131.add ((x5_1).toNat * 4)).off + 2, none⟩ = some (.int .i64 ((rd_T36 l0 x5_1).f1.f0)) ∧ w'.cell? ⟨(ad131.add ((x5_1).toNat * 4)).block, (ad131.add ((x5_1).toNat * 4)).off + 3, none⟩ = some (.int .i64 ((rd_T36 l0 x5_1).f1.f1)) ∧ w'.cell? (ad131.add ((x5_1).toNat * 4)) = some (.int .i64 ((rd_T36 l0 x5_1).f0.f0)) ∧ w'.cell? ⟨(ad131.add ((x5_1).toNat * 4)).block, (ad131.add ((x5_1).toNat * 4)).off + 1, none⟩ = some (.int .i64 ((rd_T36 l0 x5_1).f0.f1)) ∧ w'.cell? ⟨(ad131.add ((x5_1).toNat * 4)).block, (ad131.add ((x5_1).toNat * 4)).off + 2, none⟩ = some (.int .i64 ((rd_T36 l0 x5_1).f1.f0)) ∧ w'.cell? ⟨(ad131.add ((x5_1).toNat * 4)).block, (ad131.add ((x5_1).toNat * 4)).off + 3, none⟩ = some (.int .i64 ((rd_T36 l0 x5_1).f1.f1))) (ds := []) (bl 0 43) (by kernel_rfl) rfl rfl ⟨(blk_cell BK130.out 0).trans rfl, (blk_cell BK130.out 1).trans rfl, (cellA HB hw131_0), (cellA HB hw131_1), (cellA HB hw131_2), (cellA HB hw131_3), (cellA HB hw133_0), (cellA HB hw133_1), (cellA HB hw133_2), (cellA HB hw133_3), (cellA HB hw135_0), (cellA HB hw135_1), (cellA HB hw135_2), (cellA HB hw135_3), (cellA HB hw137_0), (cellA HB hw137_1), (cellA HB hw137_2), (cellA HB hw137_3)⟩ (fun hHeld => ?_); refine with_tabW quernref13_Refuse.tab4 quernref13_Refuse.bits4 (fun HT_ HW_ => ?_)
         generalize wr.drew = w18 at BK130 HB hx131_0 hx131_1 hx131_2 hx131_3 hx133_0 hx133_1 hx133_2 hx133_3 hx135_0 hx135_1 hx135_2 hx135_3 hx137_0 hx137_1 hx137_2 hx137_3 hHeld ⊢
         refine pure_ (i := 0) (N := some 14) (v := ?_) (a' := ?_) (bl 1 43) rfl rfl (any_of HT_.out (by kernel_rfl)) (fun _ _ _ h => h) (Or.inl ⟨by rfl, ?_⟩) ?_ ?_
         rotate_left
         ·intro w'
          go_simp
          with_reducible rfl
         rotate_left
         ·simp only [Act.put, List.setIfInBounds_toArray, List.set_cons_zero, List.set_cons_succ, i64_w, i32_w]
          rfl
         refine pure_ (i := 1) (N := some 15) (v := ?_) (a' := ?_) (bl 2 43) rfl rfl (any_of HT_.out (by kernel_rfl)) (fun _ _ _ h => h) (Or.inl ⟨by rfl, ?_⟩) ?_ ?_
         rotate_left
         ·intro w'
          go_simp
          with_reducible rfl
         rotate_left
         ·simp only [Act.put, List.setIfInBounds_toArray, List.set_cons_zero, List.set_cons_succ, i64_w, i32_w]
          rfl
         refine pure_ (i := 2) (N := some 16) (v := ?_) (a' := ?_) (bl 3 43) rfl rfl (any_of HT_.out (by kernel_rfl)) (fun _ _ _ h => h) (Or.inl ⟨by rfl, ?_⟩) ?_ ?_
         rotate_left
         ·intro w'
          go_simp
          with_reducible rfl
         rotate_left
         ·simp only [Act.put, List.setIfInBounds_toArray, List.set_cons_zero, List.set_cons_succ, i64_w, i32_w]
          rfl
         refine pure_ (i := 3) (N := some 17) (v := ?_) (a' := ?_) (bl 4 43) rfl rfl (any_of HT_.out (by kernel_rfl)) (fun _ _ _ h => h) (Or.inl ⟨by rfl, ?_⟩) ?_ ?_
         rotate_left
         ·intro w'
          go_simp
          with_reducible rfl
         rotate_left
         ·simp only [Act.put, List.setIfInBounds_toArray, List.set_cons_zero, List.set_cons_succ, i64_w, i32_w]
          rfl
         refine take_ (i := 4) (N := some 18) (v := ?_) (a' := ?_) (bl 5 43) rfl rfl (take_ofW HT_.out HW_.out (by kernel_rfl)) (fun _ _ _ h => h) (Or.inl ⟨by rfl, ?_⟩) hHeld ?_ ?_
         rotate_left
         ·rintro w' ⟨s0, s1, s2, s3, s4, s5, s6, s7, s8, s9, s10, s11, s12, s13, s14, s15, s16, s17⟩
          go_simp
          with_reducible rfl
         rotate_left
         ·simp only [Act.put, List.setIfInBounds_toArray, List.set_cons_zero, List.set_cons_succ, i64_w, i32_w]
          rfl
         refine one_ (i := 5) (N := some 19) (bl 6 43) rfl rfl (one_of HT_.out (by kernel_rfl)) (by decide) (fun K hK => ?_)
         refine goes_ Try.func35 (by kernel_rfl) rfl #[.agg #[.int .i64 ((rd_T36 l0 x5_1).f0.f0), .int .i64 ((rd_T36 l0 x5_1).f0.f1)]] (by rfl) rfl rfl (by (try simp only [List.map_toArray, List.map_cons, List.map_nil]); first | done | rfl | (simp only [List.length_drop, List.length_take]; rfl)) ?_
         with_reducible refine (quernref13_Place.calls ((rd_T36 l0 x5_1).f0.f0) ((rd_T36 l0 x5_1).f0.f1) true _ A6.out).mono ?_
         rintro e w19 ⟨rfl, hb⟩
         refine ⟨_, rfl, ?_⟩
         have n0_ := Aside0.mk (blk_below (g := gb130) (o := .cells #[.int .i64 a1_0, .int .i64 a1_1] 24 (0, 0)) (by (with_reducible repeat (first | refine blk_drewN ?_ _ | refine blk_drew ?_ | refine blk_alloc ?_ _)); exact BK130.out) hb)
         have n1_ := Aside0.mk (below_step (by repeat (first | (with_reducible first | exact HB.out | apply below_alloc | apply pw_below_drewN | apply below_drew1 | refine below_set ?_ GE130.out) | exact HB.out)) hb)
         clear BK130
         clear HB
         have BK130 := n0_
         have HB := n1_
         clear n0_ n1_
         (try clear hb)
         (try clear hb2)
         (try clear hk)
         (try clear hi)
         refine hK.out _ _ ⟨(blk_cell BK130.out 0).trans rfl, (blk_cell BK130.out 1).trans rfl, (cellA HB hw131_0), (cellA HB hw131_1), (cellA HB hw131_2), (cellA HB hw131_3), (cellA HB hw133_0), (cellA HB hw133_1), (cellA HB hw133_2), (cellA HB hw133_3), (cellA HB hw135_0), (cellA HB hw135_1), (cellA HB hw135_2), (cellA HB hw135_3), (cellA HB hw137_0), (cellA HB hw137_1), (cellA HB hw137_2), (cellA HB hw137_3)⟩ (fun hHeld => ?_)
         clear hK K
         refine norm_ (a' := ?_) ?_ ?_
         rotate_left
         ·show Act.put _ (some 19) _ = _
          simp only [Act.put, List.setIfInBounds_toArray, List.set_cons_zero, List.set_cons_succ, i64_w, i32_w]
          rfl
         refine pure_ (i := 6) (N := some 20) (v := ?_) (a' := ?_) (bl 7 43) rfl rfl (any_of HT_.out (by kernel_rfl)) (fun _ _ _ h => h) (Or.inl ⟨by rfl, ?_⟩) ?_ ?_
         rotate_left
         ·intro w'
          go_simp
          with_reducible rfl
         rotate_left
         ·simp only [Act.put, List.setIfInBounds_toArray, List.set_cons_zero, List.set_cons_succ, i64_w, i32_w]
          rfl
         refine pure_ (i := 7) (N := some 21) (v := ?_) (a' := ?_) (bl 8 43) rfl rfl (any_of HT_.out (by kernel_rfl)) (fun _ _ _ h => h) (Or.inl ⟨by rfl, ?_⟩) ?_ ?_
         rotate_left
         ·intro w'
          go_simp
          with_reducible rfl
         rotate_left
         ·simp only [Act.put, List.setIfInBounds_toArray, List.set_cons_zero, List.set_cons_succ, i64_w, i32_w]
          rfl
         refine pure_ (i := 8) (N := some 22) (v := ?_) (a' := ?_) (bl 9 43) rfl rfl (any_of HT_.out (by kernel_rfl)) (fun _ _ _ h => h) (Or.inl ⟨by rfl, ?_⟩) ?_ ?_
         rotate_left
         ·intro w'
          go_simp
          with_reducible rfl
         rotate_left
         ·simp only [Act.put, List.setIfInBounds_toArray, List.set_cons_zero, List.set_cons_succ, i64_w, i32_w]
          rfl
         refine pure_ (i := 9) (N := some 23) (v := ?_) (a' := ?_) (bl 10 43) rfl rfl (any_of HT_.out (by kernel_rfl)) (fun _ _ _ h => h) (Or.inl ⟨by rfl, ?_⟩) ?_ ?_
         rotate_left
         ·intro w'
          go_simp
          with_reducible rfl
         rotate_left
         ·simp only [Act.put, List.setIfInBounds_toArray, List.set_cons_zero, List.set_cons_succ, i64_w, i32_w]
          rfl
         refine pure_ (i := 10) (N := some 24) (v := ?_) (a' := ?_) (bl 11 43) rfl rfl (any_of HT_.out (by kernel_rfl)) (fun _ _ _ h => h) (Or.inl ⟨by rfl, ?_⟩) ?_ ?_
         rotate_left
         ·intro w'
          go_simp
          with_reducible rfl
         rotate_left
         ·simp only [Act.put, List.setIfInBounds_toArray, List.set_cons_zero, List.set_cons_succ, i64_w, i32_w]
          rfl
         refine pure_ (i := 11) (N := some 25) (v := ?_) (a' := ?_) (bl 12 43) rfl rfl (any_of HT_.out (by kernel_rfl)) (fun _ _ _ h => h) (Or.inl ⟨by rfl, ?_⟩) ?_ ?_
         rotate_left
         ·intro w'
          go_simp
          with_reducible rfl
         rotate_left
         ·simp only [Act.put, List.setIfInBounds_toArray, List.set_cons_zero, List.set_cons_succ, i64_w, i32_w]
          rfl
         refine take_ (i := 12) (N := some 26) (v := ?_) (a' := ?_) (bl 13 43) rfl rfl (take_ofW HT_.out HW_.out (by kernel_rfl)) (fun _ _ _ h => h) (Or.inl ⟨by rfl, ?_⟩) hHeld ?_ ?_
         rotate_left
         ·rintro w' ⟨s0, s1, s2, s3, s4, s5, s6, s7, s8, s9, s10, s11, s12, s13, s14, s15, s16, s17⟩
          go_simp
          with_reducible rfl
         rotate_left
         ·simp only [Act.put, List.setIfInBounds_toArray, List.set_cons_zero, List.set_cons_succ, i64_w, i32_w]
          rfl
         refine one_ (i := 13) (N := some 27) (bl 14 43) rfl rfl (one_of HT_.out (by kernel_rfl)) (by decide) (fun K hK => ?_)
         refine goes_ Try.func35 (by kernel_rfl) rfl #[.agg #[.int .i64 ((rd_T36 l0 x5_1).f1.f0), .int .i64 ((rd_T36 l0 x5_1).f1.f1)]] (by rfl) rfl rfl (by (try simp only [List.map_toArray, List.map_cons, List.map_nil]); first | done | rfl | (simp only [List.length_drop, List.length_take]; rfl)) ?_
         with_reducible refine (quernref13_Place.calls ((rd_T36 l0 x5_1).f1.f0) ((rd_T36 l0 x5_1).f1.f1) true _ A8.out).mono ?_
         rintro e w20 ⟨rfl, hb⟩
         refine ⟨_, rfl, ?_⟩
         have n0_ := Aside0.mk (blk_below (g := gb130) (o := .cells #[.int .i64 a1_0, .int .i64 a1_1] 24 (0, 0)) (by (with_reducible repeat (first | refine blk_drewN ?_ _ | refine blk_drew ?_ | refine blk_alloc ?_ _)); exact BK130.out) hb)
         have n1_ := Aside0.mk (below_step (by repeat (first | (with_reducible first | exact HB.out | apply below_alloc | apply pw_below_drewN | apply below_drew1 | refine below_set ?_ GE130.out) | exact HB.out)) hb)
         clear BK130
         clear HB
         have BK130 := n0_
         have HB := n1_
         clear n0_ n1_
         (try clear hb)
         (try clear hb2)
         (try clear hk)
         (try clear hi)
         refine hK.out _ _ ⟨(blk_cell BK130.out 0).trans rfl, (blk_cell BK130.out 1).trans rfl, (cellA HB hw131_0), (cellA HB hw131_1), (cellA HB hw131_2), (cellA HB hw131_3), (cellA HB hw133_0), (cellA HB hw133_1), (cellA HB hw133_2), (cellA HB hw133_3), (cellA HB hw135_0), (cellA HB hw135_1), (cellA HB hw135_2), (cellA HB hw135_3), (cellA HB hw137_0), (cellA HB hw137_1), (cellA HB hw137_2), (cellA HB hw137_3)⟩ (fun hHeld => ?_)
         clear hK K
         refine norm_ (a' := ?_) ?_ ?_
         rotate_left
         ·show Act.put _ (some 27) _ = _
          simp only [Act.put, List.setIfInBounds_toArray, List.set_cons_zero, List.set_cons_succ, i64_w, i32_w]
          rfl
         refine pure_ (i := 14) (N := some 28) (v := ?_) (a' := ?_) (bl 15 43) rfl rfl (any_of HT_.out (by kernel_rfl)) (fun _ _ _ h => h) (Or.inl ⟨by rfl, ?_⟩) ?_ ?_
         rotate_left
         ·intro w'
          go_simp
          with_reducible rfl
         rotate_left
         ·simp only [Act.put, List.setIfInBounds_toArray, List.set_cons_zero, List.set_cons_succ, i64_w, i32_w]
          rfl
         refine pure_ (i := 15) (N := some 29) (v := ?_) (a' := ?_) (bl 16 43) rfl rfl (any_of HT_.out (by kernel_rfl)) (fun _ _ _ h => h) (Or.inl ⟨by rfl, ?_⟩) ?_ ?_
         rotate_left
         ·intro w'
          go_simp
          with_reducible rfl
         rotate_left
         ·simp only [Act.put, List.setIfInBounds_toArray, List.set_cons_zero, List.set_cons_succ, i64_w, i32_w]
          rfl
         refine pure_ (i := 16) (N := some 30) (v := undef) (a' := ?_) (bl 17 43) rfl rfl (any_of HT_.out (by kernel_rfl)) (fun _ _ _ h => h) (Or.inr ⟨by rfl, rfl⟩) ?_ ?_
         rotate_left
         ·simp only [Act.put, List.setIfInBounds_toArray, List.set_cons_zero, List.set_cons_succ, i64_w, i32_w]
          rfl
         refine pure_ (i := 17) (N := some 31) (v := undef) (a' := ?_) (bl 18 43) rfl rfl (any_of HT_.out (by kernel_rfl)) (fun _ _ _ h => h) (Or.inr ⟨by rfl, rfl⟩) ?_ ?_
         rotate_left
         ·simp only [Act.put, List.setIfInBounds_toArray, List.set_cons_zero, List.set_cons_succ, i64_w, i32_w]
          rfl
         refine pure_ (i := 18) (N := some 32) (v := undef) (a' := ?_) (bl 19 43) rfl rfl (any_of HT_.out (by kernel_rfl)) (fun _ _ _ h => h) (Or.inr ⟨by rfl, rfl⟩) ?_ ?_
         rotate_left
         ·simp only [Act.put, List.setIfInBounds_toArray, List.set_cons_zero, List.set_cons_succ, i64_w, i32_w]
          rfl
         refine pure_ (i := 19) (N := some 33) (v := undef) (a' := ?_) (bl 20 43) rfl rfl (any_of HT_.out (by kernel_rfl)) (fun _ _ _ h => h) (Or.inr ⟨by rfl, rfl⟩) ?_ ?_
         rotate_left
         ·simp only [Act.put, List.setIfInBounds_toArray, List.set_cons_zero, List.set_cons_succ, i64_w, i32_w]
          rfl
         refine pure_ (i := 20) (N := some 34) (v := undef) (a' := ?_) (bl 21 43) rfl rfl (any_of HT_.out (by kernel_rfl)) (fun _ _ _ h => h) (Or.inr ⟨by rfl, rfl⟩) ?_ ?_
         rotate_left
         ·simp only [Act.put, List.setIfInBounds_toArray, List.set_cons_zero, List.set_cons_succ, i64_w, i32_w]
          rfl
         refine pure_ (i := 21) (N := some 35) (v := undef) (a' := ?_) (bl 22 43) rfl rfl (any_of HT_.out (by kernel_rfl)) (fun _ _ _ h => h) (Or.inr ⟨by rfl, rfl⟩) ?_ ?_
         rotate_left
         ·simp only [Act.put, List.setIfInBounds_toArray, List.set_cons_zero, List.set_cons_succ, i64_w, i32_w]
          rfl
         refine pure_ (i := 22) (N := some 36) (v := undef) (a' := ?_) (bl 23 43) rfl rfl (any_of HT_.out (by kernel_rfl)) (fun _ _ _ h => h) (Or.inr ⟨by rfl, rfl⟩) ?_ ?_
         rotate_left
         ·simp only [Act.put, List.setIfInBounds_toArray, List.set_cons_zero, List.set_cons_succ, i64_w, i32_w]
          rfl
         refine pure_ (i := 23) (N := some 37) (v := ?_) (a' := ?_) (bl 24 43) rfl rfl (any_of HT_.out (by kernel_rfl)) (fun _ _ _ h => h) (Or.inl ⟨by rfl, ?_⟩) ?_ ?_
         rotate_left
         ·intro w'
          go_simp
          with_reducible rfl
         rotate_left
         ·simp only [Act.put, List.setIfInBounds_toArray, List.set_cons_zero, List.set_cons_succ, i64_w, i32_w]
          rfl
         refine pure_ (i := 24) (N := some 38) (v := ?_) (a' := ?_) (bl 25 43) rfl rfl (any_of HT_.out (by kernel_rfl)) (fun _ _ _ h => h) (Or.inl ⟨by rfl, ?_⟩) ?_ ?_
         rotate_left
         ·intro w'
          go_simp
          with_reducible rfl
         rotate_left
         ·simp only [Act.put, List.setIfInBounds_toArray, List.set_cons_zero, List.set_cons_succ, i64_w, i32_w]
          rfl
         refine pure_ (i := 25) (N := some 39) (v := ?_) (a' := ?_) (bl 26 43) rfl rfl (any_of HT_.out (by kernel_rfl)) (fun _ _ _ h => h) (Or.inl ⟨by rfl, ?_⟩) ?_ ?_
         rotate_left
         ·intro w'
          go_simp
          with_reducible rfl
         rotate_left
         ·simp only [Act.put, List.setIfInBounds_toArray, List.set_cons_zero, List.set_cons_succ, i64_w, i32_w]
          rfl
         refine pure_ (i := 26) (N := some 40) (v := ?_) (a' := ?_) (bl 27 43) rfl rfl (any_of HT_.out (by kernel_rfl)) (fun _ _ _ h => h) (Or.inl ⟨by rfl, ?_⟩) ?_ ?_
         rotate_left
         ·intro w'
          go_simp
          with_reducible rfl
         rotate_left
         ·simp only [Act.put, List.setIfInBounds_toArray, List.set_cons_zero, List.set_cons_succ, i64_w, i32_w]
          rfl
         refine pure_ (i := 27) (N := some 41) (v := ?_) (a' := ?_) (bl 28 43) rfl rfl (any_of HT_.out (by kernel_rfl)) (fun _ _ _ h => h) (Or.inl ⟨by rfl, ?_⟩) ?_ ?_
         rotate_left
         ·intro w'
          go_simp
          with_reducible rfl
         rotate_left
         ·simp only [Act.put, List.setIfInBounds_toArray, List.set_cons_zero, List.set_cons_succ, i64_w, i32_w]
          rfl
         refine pure_ (i := 28) (N := some 42) (v := ?_) (a' := ?_) (bl 29 43) rfl rfl (any_of HT_.out (by kernel_rfl)) (fun _ _ _ h => h) (Or.inl ⟨by rfl, ?_⟩) ?_ ?_
         rotate_left
         ·intro w'
          go_simp
          with_reducible rfl
         rotate_left
         ·simp only [Act.put, List.setIfInBounds_toArray, List.set_cons_zero, List.set_cons_succ, i64_w, i32_w]
          rfl
         refine pure_ (i := 29) (N := some 43) (v := ?_) (a' := ?_) (bl 30 43) rfl rfl (any_of HT_.out (by kernel_rfl)) (fun _ _ _ h => h) (Or.inl ⟨by rfl, ?_⟩) ?_ ?_
         rotate_left
         ·intro w'
          go_simp
          with_reducible rfl
         rotate_left
         ·simp only [Act.put, List.setIfInBounds_toArray, List.set_cons_zero, List.set_cons_succ, i64_w, i32_w]
          rfl
         refine take_ (i := 30) (N := some 44) (v := ?_) (a' := ?_) (bl 31 43) rfl rfl (take_ofW HT_.out HW_.out (by kernel_rfl)) (fun _ _ _ h => h) (Or.inl ⟨by rfl, ?_⟩) hHeld ?_ ?_
         rotate_left
         ·rintro w' ⟨s0, s1, s2, s3, s4, s5, s6, s7, s8, s9, s10, s11, s12, s13, s14, s15, s16, s17⟩
          go_simp
          with_reducible rfl
         rotate_left
         ·simp only [Act.put, List.setIfInBounds_toArray, List.set_cons_zero, List.set_cons_succ, i64_w, i32_w]
          rfl
         refine take_ (i := 31) (N := some 45) (v := ?_) (a' := ?_) (bl 32 43) rfl rfl (take_ofW HT_.out HW_.out (by kernel_rfl)) (fun _ _ _ h => h) (Or.inl ⟨by rfl, ?_⟩) hHeld ?_ ?_
         rotate_left
         ·rintro w' ⟨s0, s1, s2, s3, s4, s5, s6, s7, s8, s9, s10, s11, s12, s13, s14, s15, s16, s17⟩
          go_simp
          with_reducible rfl
         rotate_left
         ·simp only [Act.put, List.setIfInBounds_toArray, List.set_cons_zero, List.set_cons_succ, i64_w, i32_w]
          rfl
         refine one_ (i := 32) (N := some 46) (bl 33 43) rfl rfl (one_of HT_.out (by kernel_rfl)) (by decide) (fun K hK => ?_)
         refine goes_ Try.func27 (by kernel_rfl) rfl #[.agg #[.int .i64 ((rd_T36 l0 x5_1).f0.f0), .int .i64 ((rd_T36 l0 x5_1).f0.f1)], .agg #[.int .i64 a1_0, .int .i64 a1_1]] (by rfl) rfl rfl (by (try simp only [List.map_toArray, List.map_cons, List.map_nil]); first | done | rfl | (simp only [List.length_drop, List.length_take]; rfl)) ?_
         with_reducible refine (quernref13_Same.calls ((rd_T36 l0 x5_1).f0.f0) ((rd_T36 l0 x5_1).f0.f1) a1_0 a1_1 false _ A10.out).mono ?_
         rintro e w21 ⟨rfl, hb⟩
         refine ⟨_, rfl, ?_⟩
         have n0_ := Aside0.mk (blk_below (g := gb130) (o := .cells #[.int .i64 a1_0, .int .i64 a1_1] 24 (0, 0)) (by (with_reducible repeat (first | refine blk_drewN ?_ _ | refine blk_drew ?_ | refine blk_alloc ?_ _)); exact BK130.out) hb)
         have n1_ := Aside0.mk (below_step (by repeat (first | (with_reducible first | exact HB.out | apply below_alloc | apply pw_below_drewN | apply below_drew1 | refine below_set ?_ GE130.out) | exact HB.out)) hb)
         clear BK130
         clear HB
         have BK130 := n0_
         have HB := n1_
         clear n0_ n1_
         (try clear hb)
         (try clear hb2)
         (try clear hk)
         (try clear hi)
         refine hK.out _ _ ⟨(blk_cell BK130.out 0).trans rfl, (blk_cell BK130.out 1).trans rfl, (cellA HB hw131_0), (cellA HB hw131_1), (cellA HB hw131_2), (cellA HB hw131_3), (cellA HB hw133_0), (cellA HB hw133_1), (cellA HB hw133_2), (cellA HB hw133_3), (cellA HB hw135_0), (cellA HB hw135_1), (cellA HB hw135_2), (cellA HB hw135_3), (cellA HB hw137_0), (cellA HB hw137_1), (cellA HB hw137_2), (cellA HB hw137_3)⟩ (fun hHeld => ?_)
         clear hK K
         refine norm_ (a' := ?_) ?_ ?_
         rotate_left
         ·show Act.put _ (some 46) _ = _
          simp only [Act.put, List.setIfInBounds_toArray, List.set_cons_zero, List.set_cons_succ, i64_w, i32_w]
          rfl
         refine pure_ (i := 33) (N := some 47) (v := ?_) (a' := ?_) (bl 34 43) rfl rfl (any_of HT_.out (by kernel_rfl)) (fun _ _ _ h => h) (Or.inl ⟨by rfl, ?_⟩) ?_ ?_
         rotate_left
         ·intro w'
          go_simp
          with_reducible rfl
         rotate_left
         ·simp only [Act.put, List.setIfInBounds_toArray, List.set_cons_zero, List.set_cons_succ, i64_w, i32_w]
          rfl
         refine pure_ (i := 34) (N := some 48) (v := ?_) (a' := ?_) (bl 35 43) rfl rfl (any_of HT_.out (by kernel_rfl)) (fun _ _ _ h => h) (Or.inl ⟨by rfl, ?_⟩) ?_ ?_
         rotate_left
         ·intro w'
          go_simp
          with_reducible rfl
         rotate_left
         ·simp only [Act.put, List.setIfInBounds_toArray, List.set_cons_zero, List.set_cons_succ, i64_w, i32_w]
          rfl
         refine pure_ (i := 35) (N := some 49) (v := ?_) (a' := ?_) (bl 36 43) rfl rfl (any_of HT_.out (by kernel_rfl)) (fun _ _ _ h => h) (Or.inl ⟨by rfl, ?_⟩) ?_ ?_
         rotate_left
         ·intro w'
          go_simp
          with_reducible rfl
         rotate_left
         ·simp only [Act.put, List.setIfInBounds_toArray, List.set_cons_zero, List.set_cons_succ, i64_w, i32_w]
          rfl
         refine pure_ (i := 36) (N := some 50) (v := ?_) (a' := ?_) (bl 37 43) rfl rfl (any_of HT_.out (by kernel_rfl)) (fun _ _ _ h => h) (Or.inl ⟨by rfl, ?_⟩) ?_ ?_
         rotate_left
         ·intro w'
          go_simp
          with_reducible rfl
         rotate_left
         ·simp only [Act.put, List.setIfInBounds_toArray, List.set_cons_zero, List.set_cons_succ, i64_w, i32_w]
          rfl
         refine pure_ (i := 37) (N := some 51) (v := ?_) (a' := ?_) (bl 38 43) rfl rfl (any_of HT_.out (by kernel_rfl)) (fun _ _ _ h => h) (Or.inl ⟨by rfl, ?_⟩) ?_ ?_
         rotate_left
         ·intro w'
          go_simp
          with_reducible rfl
         rotate_left
         ·simp only [Act.put, List.setIfInBounds_toArray, List.set_cons_zero, List.set_cons_succ, i64_w, i32_w]
          rfl
         refine pure_ (i := 38) (N := some 52) (v := ?_) (a' := ?_) (bl 39 43) rfl rfl (any_of HT_.out (by kernel_rfl)) (fun _ _ _ h => h) (Or.inl ⟨by rfl, ?_⟩) ?_ ?_
         rotate_left
         ·intro w'
          go_simp
          with_reducible rfl
         rotate_left
         ·simp only [Act.put, List.setIfInBounds_toArray, List.set_cons_zero, List.set_cons_succ, i64_w, i32_w]
          rfl
         refine take_ (i := 39) (N := some 53) (v := ?_) (a' := ?_) (bl 40 43) rfl rfl (take_ofW HT_.out HW_.out (by kernel_rfl)) (fun _ _ _ h => h) (Or.inl ⟨by rfl, ?_⟩) hHeld ?_ ?_
         rotate_left
         ·rintro w' ⟨s0, s1, s2, s3, s4, s5, s6, s7, s8, s9, s10, s11, s12, s13, s14, s15, s16, s17⟩
          go_simp
          with_reducible rfl
         rotate_left
         ·simp only [Act.put, List.setIfInBounds_toArray, List.set_cons_zero, List.set_cons_succ, i64_w, i32_w]
          rfl
         refine take_ (i := 40) (N := some 54) (v := ?_) (a' := ?_) (bl 41 43) rfl rfl (take_ofW HT_.out HW_.out (by kernel_rfl)) (fun _ _ _ h => h) (Or.inl ⟨by rfl, ?_⟩) hHeld ?_ ?_
         rotate_left
         ·rintro w' ⟨s0, s1, s2, s3, s4, s5, s6, s7, s8, s9, s10, s11, s12, s13, s14, s15, s16, s17⟩
          go_simp
          with_reducible rfl
         rotate_left
         ·simp only [Act.put, List.setIfInBounds_toArray, List.set_cons_zero, List.set_cons_succ, i64_w, i32_w]
          rfl
         refine one_ (i := 41) (N := some 55) (bl 42 43) rfl rfl (one_of HT_.out (by kernel_rfl)) (by decide) (fun K hK => ?_)
         refine goes_ Try.func27 (by kernel_rfl) rfl #[.agg #[.int .i64 ((rd_T36 l0 x5_1).f1.f0), .int .i64 ((rd_T36 l0 x5_1).f1.f1)], .agg #[.int .i64 a1_0, .int .i64 a1_1]] (by rfl) rfl rfl (by (try simp only [List.map_toArray, List.map_cons, List.map_nil]); first | done | rfl | (simp only [List.length_drop, List.length_take]; rfl)) ?_
         with_reducible refine (quernref13_Same.calls ((rd_T36 l0 x5_1).f1.f0) ((rd_T36 l0 x5_1).f1.f1) a1_0 a1_1 true _ A16.out).mono ?_
         rintro e w22 ⟨rfl, hb⟩
         refine ⟨_, rfl, ?_⟩
         have n0_ := Aside0.mk (blk_below (g := gb130) (o := .cells #[.int .i64 a1_0, .int .i64 a1_1] 24 (0, 0)) (by (with_reducible repeat (first | refine blk_drewN ?_ _ | refine blk_drew ?_ | refine blk_alloc ?_ _)); exact BK130.out) hb)
         have n1_ := Aside0.mk (below_step (by repeat (first | (with_reducible first | exact HB.out | apply below_alloc | apply pw_below_drewN | apply below_drew1 | refine below_set ?_ GE130.out) | exact HB.out)) hb)
         clear BK130
         clear HB
         have BK130 := n0_
         have HB := n1_
         clear n0_ n1_
         (try clear hb)
         (try clear hb2)
         (try clear hk)
         (try clear hi)
         refine hK.out _ _ ⟨(blk_cell BK130.out 0).trans rfl, (blk_cell BK130.out 1).trans rfl, (cellA HB hw131_0), (cellA HB hw131_1), (cellA HB hw131_2), (cellA HB hw131_3), (cellA HB hw133_0), (cellA HB hw133_1), (cellA HB hw133_2), (cellA HB hw133_3), (cellA HB hw135_0), (cellA HB hw135_1), (cellA HB hw135_2), (cellA HB hw135_3), (cellA HB hw137_0), (cellA HB hw137_1), (cellA HB hw137_2), (cellA HB hw137_3)⟩ (fun hHeld => ?_)
         clear hK K
         refine norm_ (a' := ?_) ?_ ?_
         rotate_left
         ·show Act.put _ (some 55) _ = _
          simp only [Act.put, List.setIfInBounds_toArray, List.set_cons_zero, List.set_cons_succ, i64_w, i32_w]
          rfl
         refine pure_ (i := 42) (N := some 56) (v := ?_) (a' := ?_) (bl 43 43) rfl rfl (any_of HT_.out (by kernel_rfl)) (fun _ _ _ h => h) (Or.inl ⟨by rfl, ?_⟩) ?_ ?_
         rotate_left
         ·intro w'
          go_simp
          with_reducible rfl
         rotate_left
         ·simp only [Act.put, List.setIfInBounds_toArray, List.set_cons_zero, List.set_cons_succ, i64_w, i32_w]
          rfl
         refine done_ (done_of HT_.out (by kernel_rfl)) ?_
         try go_wp2
         go_ret
         exact ⟨by first | rfl | (simp [errW_none, errW_some] <;> rfl) | (simp [*, errW_none, errW_some] <;> rfl), by repeat (first | (with_reducible first | exact HB.out | apply below_alloc | apply pw_below_drewN | apply below_drew1 | refine below_set ?_ GE130.out) | exact HB.out)⟩
        ·replace c17 := Bool.eq_false_iff.mpr c17
         subst c17
         have H1 : (quernref13_Refuse.l0 k1 l0 (wrap64 (x5_1 + 1)) a1_0 a1_1) = some r := by rw [if_neg (show ¬ (false = true) by decide)] at H; exact H
         clear H
         have H := H1
         clear H1
         have H' := Aside0.mk H
         clear H
         try go_wp2
         have n0_ := Aside0.mk (blk_drew BK130.out)
         have n1_ := Aside0.mk (below_drew1 HB.out)
         clear BK130
         clear HB
         have BK130 := n0_
         have HB := n1_
         clear n0_ n1_
         have p131 : 0 ≤ (x5_1 : Int) := of_decide_eq_true (by first | (with_reducible assumption) | assumption)
         have q131 : x5_1 < (l0.length : Int) := of_decide_eq_true (by first | (with_reducible assumption) | assumption)
         obtain ⟨ad131, e131, hx131_0, hx131_1, hx131_2, hx131_3⟩ := at_T36 HR0.out x5_1 p131 q131
         have hw131_3 := hx131_3
         have hw131_2 := hx131_2
         have hw131_1 := hx131_1
         have hw131_0 := hx131_0
         cases e131
         replace hx131_0 := cellA HB hx131_0
         replace hx131_1 := cellA HB hx131_1
         replace hx131_2 := cellA HB hx131_2
         replace hx131_3 := cellA HB hx131_3
         replace p131 := eq_true p131
         replace q131 := eq_true q131
         have p133 : 0 ≤ (x5_1 : Int) := of_decide_eq_true (by first | (with_reducible assumption) | assumption)
         have q133 : x5_1 < (l0.length : Int) := of_decide_eq_true (by first | (with_reducible assumption) | assumption)
         obtain ⟨ad133, e133, hx133_0, hx133_1, hx133_2, hx133_3⟩ := at_T36 HR0.out x5_1 p133 q133
         have hw133_3 := hx133_3
         have hw133_2 := hx133_2
         have hw133_1 := hx133_1
         have hw133_0 := hx133_0
         obtain rfl : ad131 = ad133 := (by injection e133)
         replace hx133_0 := cellA HB hx133_0
         replace hx133_1 := cellA HB hx133_1
         replace hx133_2 := cellA HB hx133_2
         replace hx133_3 := cellA HB hx133_3
         replace p133 := eq_true p133
         replace q133 := eq_true q133
         have p135 : 0 ≤ (x5_1 : Int) := of_decide_eq_true (by first | (with_reducible assumption) | assumption)
         have q135 : x5_1 < (l0.length : Int) := of_decide_eq_true (by first | (with_reducible assumption) | assumption)
         obtain ⟨ad135, e135, hx135_0, hx135_1, hx135_2, hx135_3⟩ := at_T36 HR0.out x5_1 p135 q135
         have hw135_3 := hx135_3
         have hw135_2 := hx135_2
         have hw135_1 := hx135_1
         have hw135_0 := hx135_0
         obtain rfl : ad131 = ad135 := (by injection e135)
         replace hx135_0 := cellA HB hx135_0
         replace hx135_1 := cellA HB hx135_1
         replace hx135_2 := cellA HB hx135_2
         replace hx135_3 := cellA HB hx135_3
         replace p135 := eq_true p135
         replace q135 := eq_true q135
         have p137 : 0 ≤ (x5_1 : Int) := of_decide_eq_true (by first | (with_reducible assumption) | assumption)
         have q137 : x5_1 < (l0.length : Int) := of_decide_eq_true (by first | (with_reducible assumption) | assumption)
         obtain ⟨ad137, e137, hx137_0, hx137_1, hx137_2, hx137_3⟩ := at_T36 HR0.out x5_1 p137 q137
         have hw137_3 := hx137_3
         have hw137_2 := hx137_2
         have hw137_1 := hx137_1
         have hw137_0 := hx137_0
         obtain rfl : ad131 = ad137 := (by injection e137)
         replace hx137_0 := cellA HB hx137_0
         replace hx137_1 := cellA HB hx137_1
         replace hx137_2 := cellA HB hx137_2
         replace hx137_3 := cellA HB hx137_3
         replace p137 := eq_true p137
         replace q137 := eq_true q137
         refine start_ (n := 43) (S := fun w' => w'.cell? ⟨gb130, 0, none⟩ = some (.int .i64 a1_0) ∧ w'.cell? ⟨gb130, 1, none⟩ = some (.int .i64 a1_1) ∧ w'.cell? (ad131.add ((x5_1).toNat * 4)) = some (.int .i64 ((rd_T36 l0 x5_1).f0.f0)) ∧ w'.cell? ⟨(ad131.add ((x5_1).toNat * 4)).block, (ad131.add ((x5_1).toNat * 4)).off + 1, none⟩ = some (.int .i64 ((rd_T36 l0 x5_1).f0.f1)) ∧ w'.cell? ⟨(ad131.add ((x5_1).toNat * 4)).block, (ad131.add ((x5_1).toNat * 4)).off + 2, none⟩ = some (.int .i64 ((rd_T36 l0 x5_1).f1.f0)) ∧ w'.cell? ⟨(ad131.add ((x5_1).toNat * 4)).block, (ad131.add ((x5_1).toNat * 4)).off + 3, none⟩ = some (.int .i64 ((rd_T36 l0 x5_1).f1.f1)) ∧ w'.cell? (ad131.add ((x5_1).toNat * 4)) = some (.int .i64 ((rd_T36 l0 x5_1).f0.f0)) ∧ w'.cell? ⟨(ad131.add ((x5_1).toNat * 4)).block, (ad131.add ((x5_1).toNat * 4)).off + 1, none⟩ = some (.int .i64 ((rd_T36 l0 x5_1).f0.f1)) ∧ w'.cell? ⟨(ad131.add ((x5_1).toNat * 4)).block, (ad131.add ((x5_1).toNat * 4)).off + 2, none⟩ = some (.int .i64 ((rd_T36 l0 x5_1).f1.f0)) ∧ w'.cell? ⟨(ad131.add ((x5_1).toNat * 4)).block, (ad131.add ((x5_1).toNat * 4)).off + 3, none⟩ = some (.int .i64 ((rd_T36 l0 x5_1).f1.f1)) ∧ w'.cell? (ad131.add ((x5_1).toNat * 4)) = some (.int .i64 ((rd_T36 l0 x5_1).f0.f0)) ∧ w'.cell? ⟨(ad131.add ((x5_1).toNat * 4)).block, (ad131.add ((x5_1).toNat * 4)).off + 1, none⟩ = some (.int .i64 ((rd_T36 l0 x5_1).f0.f1)) ∧ w'.cell? ⟨(ad131.add ((x5_1).toNat * 4)).block, (ad131.add ((x5_1).toNat * 4)).off + 2, none⟩ = some (.int .i64 ((rd_T36 l0 x5_1).f1.f0)) ∧ w'.cell? ⟨(ad131.add ((x5_1).toNat * 4)).block, (ad131.add ((x5_1).toNat * 4)).off + 3, none⟩ = some (.int .i64 ((rd_T36 l0 x5_1).f1.f1)) ∧ w'.cell? (ad131.add ((x5_1).toNat * 4)) = some (.int .i64 ((rd_T36 l0 x5_1).f0.f0)) ∧ w'.cell? ⟨(ad131.add ((x5_1).toNat * 4)).block, (ad131.add ((x5_1).toNat * 4)).off + 1, none⟩ = some (.int .i64 ((rd_T36 l0 x5_1).f0.f1)) ∧ w'.cell? ⟨(ad131.add ((x5_1).toNat * 4)).block, (ad131.add ((x5_1).toNat * 4)).off + 2, none⟩ = some (.int .i64 ((rd_T36 l0 x5_1).f1.f0)) ∧ w'.cell? ⟨(ad131.add ((x5_1).toNat * 4)).block, (ad131.add ((x5_1).toNat * 4)).off + 3, none⟩ = some (.int .i64 ((rd_T36 l0 x5_1).f1.f1))) (ds := []) (bl 0 43) (by kernel_rfl) rfl rfl ⟨(blk_cell BK130.out 0).trans rfl, (blk_cell BK130.out 1).trans rfl, (cellA HB hw131_0), (cellA HB hw131_1), (cellA HB hw131_2), (cellA HB hw131_3), (cellA HB hw133_0), (cellA HB hw133_1), (cellA HB hw133_2), (cellA HB hw133_3), (cellA HB hw135_0), (cellA HB hw135_1), (cellA HB hw135_2), (cellA HB hw135_3), (cellA HB hw137_0), (cellA HB hw137_1), (cellA HB hw137_2), (cellA HB hw137_3)⟩ (fun hHeld => ?_); refine with_tabW quernref13_Refuse.tab4 quernref13_Refuse.bits4 (fun HT_ HW_ => ?_)
         generalize wr.drew = w23 at BK130 HB hx131_0 hx131_1 hx131_2 hx131_3 hx133_0 hx133_1 hx133_2 hx133_3 hx135_0 hx135_1 hx135_2 hx135_3 hx137_0 hx137_1 hx137_2 hx137_3 hHeld ⊢
         refine pure_ (i := 0) (N := some 14) (v := ?_) (a' := ?_) (bl 1 43) rfl rfl (any_of HT_.out (by kernel_rfl)) (fun _ _ _ h => h) (Or.inl ⟨by rfl, ?_⟩) ?_ ?_
         rotate_left
         ·intro w'
          go_simp
          with_reducible rfl
         rotate_left
         ·simp only [Act.put, List.setIfInBounds_toArray, List.set_cons_zero, List.set_cons_succ, i64_w, i32_w]
          rfl
         refine pure_ (i := 1) (N := some 15) (v := ?_) (a' := ?_) (bl 2 43) rfl rfl (any_of HT_.out (by kernel_rfl)) (fun _ _ _ h => h) (Or.inl ⟨by rfl, ?_⟩) ?_ ?_
         rotate_left
         ·intro w'
          go_simp
          with_reducible rfl
         rotate_left
         ·simp only [Act.put, List.setIfInBounds_toArray, List.set_cons_zero, List.set_cons_succ, i64_w, i32_w]
          rfl
         refine pure_ (i := 2) (N := some 16) (v := ?_) (a' := ?_) (bl 3 43) rfl rfl (any_of HT_.out (by kernel_rfl)) (fun _ _ _ h => h) (Or.inl ⟨by rfl, ?_⟩) ?_ ?_
         rotate_left
         ·intro w'
          go_simp
          with_reducible rfl
         rotate_left
         ·simp only [Act.put, List.setIfInBounds_toArray, List.set_cons_zero, List.set_cons_succ, i64_w, i32_w]
          rfl
         refine pure_ (i := 3) (N := some 17) (v := ?_) (a' := ?_) (bl 4 43) rfl rfl (any_of HT_.out (by kernel_rfl)) (fun _ _ _ h => h) (Or.inl ⟨by rfl, ?_⟩) ?_ ?_
         rotate_left
         ·intro w'
          go_simp
          with_reducible rfl
         rotate_left
         ·simp only [Act.put, List.setIfInBounds_toArray, List.set_cons_zero, List.set_cons_succ, i64_w, i32_w]
          rfl
         refine take_ (i := 4) (N := some 18) (v := ?_) (a' := ?_) (bl 5 43) rfl rfl (take_ofW HT_.out HW_.out (by kernel_rfl)) (fun _ _ _ h => h) (Or.inl ⟨by rfl, ?_⟩) hHeld ?_ ?_
         rotate_left
         ·rintro w' ⟨s0, s1, s2, s3, s4, s5, s6, s7, s8, s9, s10, s11, s12, s13, s14, s15, s16, s17⟩
          go_simp
          with_reducible rfl
         rotate_left
         ·simp only [Act.put, List.setIfInBounds_toArray, List.set_cons_zero, List.set_cons_succ, i64_w, i32_w]
          rfl
         refine one_ (i := 5) (N := some 19) (bl 6 43) rfl rfl (one_of HT_.out (by kernel_rfl)) (by decide) (fun K hK => ?_)
         refine goes_ Try.func35 (by kernel_rfl) rfl #[.agg #[.int .i64 ((rd_T36 l0 x5_1).f0.f0), .int .i64 ((rd_T36 l0 x5_1).f0.f1)]] (by rfl) rfl rfl (by (try simp only [List.map_toArray, List.map_cons, List.map_nil]); first | done | rfl | (simp only [List.length_drop, List.length_take]; rfl)) ?_
         with_reducible refine (quernref13_Place.calls ((rd_T36 l0 x5_1).f0.f0) ((rd_T36 l0 x5_1).f0.f1) true _ A6.out).mono ?_
         rintro e w24 ⟨rfl, hb⟩
         refine ⟨_, rfl, ?_⟩
         have n0_ := Aside0.mk (blk_below (g := gb130) (o := .cells #[.int .i64 a1_0, .int .i64 a1_1] 24 (0, 0)) (by (with_reducible repeat (first | refine blk_drewN ?_ _ | refine blk_drew ?_ | refine blk_alloc ?_ _)); exact BK130.out) hb)
         have n1_ := Aside0.mk (below_step (by repeat (first | (with_reducible first | exact HB.out | apply below_alloc | apply pw_below_drewN | apply below_drew1 | refine below_set ?_ GE130.out) | exact HB.out)) hb)
         clear BK130
         clear HB
         have BK130 := n0_
         have HB := n1_
         clear n0_ n1_
         (try clear hb)
         (try clear hb2)
         (try clear hk)
         (try clear hi)
         refine hK.out _ _ ⟨(blk_cell BK130.out 0).trans rfl, (blk_cell BK130.out 1).trans rfl, (cellA HB hw131_0), (cellA HB hw131_1), (cellA HB hw131_2), (cellA HB hw131_3), (cellA HB hw133_0), (cellA HB hw133_1), (cellA HB hw133_2), (cellA HB hw133_3), (cellA HB hw135_0), (cellA HB hw135_1), (cellA HB hw135_2), (cellA HB hw135_3), (cellA HB hw137_0), (cellA HB hw137_1), (cellA HB hw137_2), (cellA HB hw137_3)⟩ (fun hHeld => ?_)
         clear hK K
         refine norm_ (a' := ?_) ?_ ?_
         rotate_left
         ·show Act.put _ (some 19) _ = _
          simp only [Act.put, List.setIfInBounds_toArray, List.set_cons_zero, List.set_cons_succ, i64_w, i32_w]
          rfl
         refine pure_ (i := 6) (N := some 20) (v := ?_) (a' := ?_) (bl 7 43) rfl rfl (any_of HT_.out (by kernel_rfl)) (fun _ _ _ h => h) (Or.inl ⟨by rfl, ?_⟩) ?_ ?_
         rotate_left
         ·intro w'
          go_simp
          with_reducible rfl
         rotate_left
         ·simp only [Act.put, List.setIfInBounds_toArray, List.set_cons_zero, List.set_cons_succ, i64_w, i32_w]
          rfl
         refine pure_ (i := 7) (N := some 21) (v := ?_) (a' := ?_) (bl 8 43) rfl rfl (any_of HT_.out (by kernel_rfl)) (fun _ _ _ h => h) (Or.inl ⟨by rfl, ?_⟩) ?_ ?_
         rotate_left
         ·intro w'
          go_simp
          with_reducible rfl
         rotate_left
         ·simp only [Act.put, List.setIfInBounds_toArray, List.set_cons_zero, List.set_cons_succ, i64_w, i32_w]
          rfl
         refine pure_ (i := 8) (N := some 22) (v := ?_) (a' := ?_) (bl 9 43) rfl rfl (any_of HT_.out (by kernel_rfl)) (fun _ _ _ h => h) (Or.inl ⟨by rfl, ?_⟩) ?_ ?_
         rotate_left
         ·intro w'
          go_simp
          with_reducible rfl
         rotate_left
         ·simp only [Act.put, List.setIfInBounds_toArray, List.set_cons_zero, List.set_cons_succ, i64_w, i32_w]
          rfl
         refine pure_ (i := 9) (N := some 23) (v := ?_) (a' := ?_) (bl 10 43) rfl rfl (any_of HT_.out (by kernel_rfl)) (fun _ _ _ h => h) (Or.inl ⟨by rfl, ?_⟩) ?_ ?_
         rotate_left
         ·intro w'
          go_simp
          with_reducible rfl
         rotate_left
         ·simp only [Act.put, List.setIfInBounds_toArray, List.set_cons_zero, List.set_cons_succ, i64_w, i32_w]
          rfl
         refine pure_ (i := 10) (N := some 24) (v := ?_) (a' := ?_) (bl 11 43) rfl rfl (any_of HT_.out (by kernel_rfl)) (fun _ _ _ h => h) (Or.inl ⟨by rfl, ?_⟩) ?_ ?_
         rotate_left
         ·intro w'
          go_simp
          with_reducible rfl
         rotate_left
         ·simp only [Act.put, List.setIfInBounds_toArray, List.set_cons_zero, List.set_cons_succ, i64_w, i32_w]
          rfl
         refine pure_ (i := 11) (N := some 25) (v := ?_) (a' := ?_) (bl 12 43) rfl rfl (any_of HT_.out (by kernel_rfl)) (fun _ _ _ h => h) (Or.inl ⟨by rfl, ?_⟩) ?_ ?_
         rotate_left
         ·intro w'
          go_simp
          with_reducible rfl
         rotate_left
         ·simp only [Act.put, List.setIfInBounds_toArray, List.set_cons_zero, List.set_cons_succ, i64_w, i32_w]
          rfl
         refine take_ (i := 12) (N := some 26) (v := ?_) (a' := ?_) (bl 13 43) rfl rfl (take_ofW HT_.out HW_.out (by kernel_rfl)) (fun _ _ _ h => h) (Or.inl ⟨by rfl, ?_⟩) hHeld ?_ ?_
         rotate_left
         ·rintro w' ⟨s0, s1, s2, s3, s4, s5, s6, s7, s8, s9, s10, s11, s12, s13, s14, s15, s16, s17⟩
          go_simp
          with_reducible rfl
         rotate_left
         ·simp only [Act.put, List.setIfInBounds_toArray, List.set_cons_zero, List.set_cons_succ, i64_w, i32_w]
          rfl
         refine one_ (i := 13) (N := some 27) (bl 14 43) rfl rfl (one_of HT_.out (by kernel_rfl)) (by decide) (fun K hK => ?_)
         refine goes_ Try.func35 (by kernel_rfl) rfl #[.agg #[.int .i64 ((rd_T36 l0 x5_1).f1.f0), .int .i64 ((rd_T36 l0 x5_1).f1.f1)]] (by rfl) rfl rfl (by (try simp only [List.map_toArray, List.map_cons, List.map_nil]); first | done | rfl | (simp only [List.length_drop, List.length_take]; rfl)) ?_
         with_reducible refine (quernref13_Place.calls ((rd_T36 l0 x5_1).f1.f0) ((rd_T36 l0 x5_1).f1.f1) true _ A8.out).mono ?_
         rintro e w25 ⟨rfl, hb⟩
         refine ⟨_, rfl, ?_⟩
         have n0_ := Aside0.mk (blk_below (g := gb130) (o := .cells #[.int .i64 a1_0, .int .i64 a1_1] 24 (0, 0)) (by (with_reducible repeat (first | refine blk_drewN ?_ _ | refine blk_drew ?_ | refine blk_alloc ?_ _)); exact BK130.out) hb)
         have n1_ := Aside0.mk (below_step (by repeat (first | (with_reducible first | exact HB.out | apply below_alloc | apply pw_below_drewN | apply below_drew1 | refine below_set ?_ GE130.out) | exact HB.out)) hb)
         clear BK130
         clear HB
         have BK130 := n0_
         have HB := n1_
         clear n0_ n1_
         (try clear hb)
         (try clear hb2)
         (try clear hk)
         (try clear hi)
         refine hK.out _ _ ⟨(blk_cell BK130.out 0).trans rfl, (blk_cell BK130.out 1).trans rfl, (cellA HB hw131_0), (cellA HB hw131_1), (cellA HB hw131_2), (cellA HB hw131_3), (cellA HB hw133_0), (cellA HB hw133_1), (cellA HB hw133_2), (cellA HB hw133_3), (cellA HB hw135_0), (cellA HB hw135_1), (cellA HB hw135_2), (cellA HB hw135_3), (cellA HB hw137_0), (cellA HB hw137_1), (cellA HB hw137_2), (cellA HB hw137_3)⟩ (fun hHeld => ?_)
         clear hK K
         refine norm_ (a' := ?_) ?_ ?_
         rotate_left
         ·show Act.put _ (some 27) _ = _
          simp only [Act.put, List.setIfInBounds_toArray, List.set_cons_zero, List.set_cons_succ, i64_w, i32_w]
          rfl
         refine pure_ (i := 14) (N := some 28) (v := ?_) (a' := ?_) (bl 15 43) rfl rfl (any_of HT_.out (by kernel_rfl)) (fun _ _ _ h => h) (Or.inl ⟨by rfl, ?_⟩) ?_ ?_
         rotate_left
         ·intro w'
          go_simp
          with_reducible rfl
         rotate_left
         ·simp only [Act.put, List.setIfInBounds_toArray, List.set_cons_zero, List.set_cons_succ, i64_w, i32_w]
          rfl
         refine pure_ (i := 15) (N := some 29) (v := ?_) (a' := ?_) (bl 16 43) rfl rfl (any_of HT_.out (by kernel_rfl)) (fun _ _ _ h => h) (Or.inl ⟨by rfl, ?_⟩) ?_ ?_
         rotate_left
         ·intro w'
          go_simp
          with_reducible rfl
         rotate_left
         ·simp only [Act.put, List.setIfInBounds_toArray, List.set_cons_zero, List.set_cons_succ, i64_w, i32_w]
          rfl
         refine pure_ (i := 16) (N := some 30) (v := undef) (a' := ?_) (bl 17 43) rfl rfl (any_of HT_.out (by kernel_rfl)) (fun _ _ _ h => h) (Or.inr ⟨by rfl, rfl⟩) ?_ ?_
         rotate_left
         ·simp only [Act.put, List.setIfInBounds_toArray, List.set_cons_zero, List.set_cons_succ, i64_w, i32_w]
          rfl
         refine pure_ (i := 17) (N := some 31) (v := undef) (a' := ?_) (bl 18 43) rfl rfl (any_of HT_.out (by kernel_rfl)) (fun _ _ _ h => h) (Or.inr ⟨by rfl, rfl⟩) ?_ ?_
         rotate_left
         ·simp only [Act.put, List.setIfInBounds_toArray, List.set_cons_zero, List.set_cons_succ, i64_w, i32_w]
          rfl
         refine pure_ (i := 18) (N := some 32) (v := undef) (a' := ?_) (bl 19 43) rfl rfl (any_of HT_.out (by kernel_rfl)) (fun _ _ _ h => h) (Or.inr ⟨by rfl, rfl⟩) ?_ ?_
         rotate_left
         ·simp only [Act.put, List.setIfInBounds_toArray, List.set_cons_zero, List.set_cons_succ, i64_w, i32_w]
          rfl
         refine pure_ (i := 19) (N := some 33) (v := undef) (a' := ?_) (bl 20 43) rfl rfl (any_of HT_.out (by kernel_rfl)) (fun _ _ _ h => h) (Or.inr ⟨by rfl, rfl⟩) ?_ ?_
         rotate_left
         ·simp only [Act.put, List.setIfInBounds_toArray, List.set_cons_zero, List.set_cons_succ, i64_w, i32_w]
          rfl
         refine pure_ (i := 20) (N := some 34) (v := undef) (a' := ?_) (bl 21 43) rfl rfl (any_of HT_.out (by kernel_rfl)) (fun _ _ _ h => h) (Or.inr ⟨by rfl, rfl⟩) ?_ ?_
         rotate_left
         ·simp only [Act.put, List.setIfInBounds_toArray, List.set_cons_zero, List.set_cons_succ, i64_w, i32_w]
          rfl
         refine pure_ (i := 21) (N := some 35) (v := undef) (a' := ?_) (bl 22 43) rfl rfl (any_of HT_.out (by kernel_rfl)) (fun _ _ _ h => h) (Or.inr ⟨by rfl, rfl⟩) ?_ ?_
         rotate_left
         ·simp only [Act.put, List.setIfInBounds_toArray, List.set_cons_zero, List.set_cons_succ, i64_w, i32_w]
          rfl
         refine pure_ (i := 22) (N := some 36) (v := undef) (a' := ?_) (bl 23 43) rfl rfl (any_of HT_.out (by kernel_rfl)) (fun _ _ _ h => h) (Or.inr ⟨by rfl, rfl⟩) ?_ ?_
         rotate_left
         ·simp only [Act.put, List.setIfInBounds_toArray, List.set_cons_zero, List.set_cons_succ, i64_w, i32_w]
          rfl
         refine pure_ (i := 23) (N := some 37) (v := ?_) (a' := ?_) (bl 24 43) rfl rfl (any_of HT_.out (by kernel_rfl)) (fun _ _ _ h => h) (Or.inl ⟨by rfl, ?_⟩) ?_ ?_
         rotate_left
         ·intro w'
          go_simp
          with_reducible rfl
         rotate_left
         ·simp only [Act.put, List.setIfInBounds_toArray, List.set_cons_zero, List.set_cons_succ, i64_w, i32_w]
          rfl
         refine pure_ (i := 24) (N := some 38) (v := ?_) (a' := ?_) (bl 25 43) rfl rfl (any_of HT_.out (by kernel_rfl)) (fun _ _ _ h => h) (Or.inl ⟨by rfl, ?_⟩) ?_ ?_
         rotate_left
         ·intro w'
          go_simp
          with_reducible rfl
         rotate_left
         ·simp only [Act.put, List.setIfInBounds_toArray, List.set_cons_zero, List.set_cons_succ, i64_w, i32_w]
          rfl
         refine pure_ (i := 25) (N := some 39) (v := ?_) (a' := ?_) (bl 26 43) rfl rfl (any_of HT_.out (by kernel_rfl)) (fun _ _ _ h => h) (Or.inl ⟨by rfl, ?_⟩) ?_ ?_
         rotate_left
         ·intro w'
          go_simp
          with_reducible rfl
         rotate_left
         ·simp only [Act.put, List.setIfInBounds_toArray, List.set_cons_zero, List.set_cons_succ, i64_w, i32_w]
          rfl
         refine pure_ (i := 26) (N := some 40) (v := ?_) (a' := ?_) (bl 27 43) rfl rfl (any_of HT_.out (by kernel_rfl)) (fun _ _ _ h => h) (Or.inl ⟨by rfl, ?_⟩) ?_ ?_
         rotate_left
         ·intro w'
          go_simp
          with_reducible rfl
         rotate_left
         ·simp only [Act.put, List.setIfInBounds_toArray, List.set_cons_zero, List.set_cons_succ, i64_w, i32_w]
          rfl
         refine pure_ (i := 27) (N := some 41) (v := ?_) (a' := ?_) (bl 28 43) rfl rfl (any_of HT_.out (by kernel_rfl)) (fun _ _ _ h => h) (Or.inl ⟨by rfl, ?_⟩) ?_ ?_
         rotate_left
         ·intro w'
          go_simp
          with_reducible rfl
         rotate_left
         ·simp only [Act.put, List.setIfInBounds_toArray, List.set_cons_zero, List.set_cons_succ, i64_w, i32_w]
          rfl
         refine pure_ (i := 28) (N := some 42) (v := ?_) (a' := ?_) (bl 29 43) rfl rfl (any_of HT_.out (by kernel_rfl)) (fun _ _ _ h => h) (Or.inl ⟨by rfl, ?_⟩) ?_ ?_
         rotate_left
         ·intro w'
          go_simp
          with_reducible rfl
         rotate_left
         ·simp only [Act.put, List.setIfInBounds_toArray, List.set_cons_zero, List.set_cons_succ, i64_w, i32_w]
          rfl
         refine pure_ (i := 29) (N := some 43) (v := ?_) (a' := ?_) (bl 30 43) rfl rfl (any_of HT_.out (by kernel_rfl)) (fun _ _ _ h => h) (Or.inl ⟨by rfl, ?_⟩) ?_ ?_
         rotate_left
         ·intro w'
          go_simp
          with_reducible rfl
         rotate_left
         ·simp only [Act.put, List.setIfInBounds_toArray, List.set_cons_zero, List.set_cons_succ, i64_w, i32_w]
          rfl
         refine take_ (i := 30) (N := some 44) (v := ?_) (a' := ?_) (bl 31 43) rfl rfl (take_ofW HT_.out HW_.out (by kernel_rfl)) (fun _ _ _ h => h) (Or.inl ⟨by rfl, ?_⟩) hHeld ?_ ?_
         rotate_left
         ·rintro w' ⟨s0, s1, s2, s3, s4, s5, s6, s7, s8, s9, s10, s11, s12, s13, s14, s15, s16, s17⟩
          go_simp
          with_reducible rfl
         rotate_left
         ·simp only [Act.put, List.setIfInBounds_toArray, List.set_cons_zero, List.set_cons_succ, i64_w, i32_w]
          rfl
         refine take_ (i := 31) (N := some 45) (v := ?_) (a' := ?_) (bl 32 43) rfl rfl (take_ofW HT_.out HW_.out (by kernel_rfl)) (fun _ _ _ h => h) (Or.inl ⟨by rfl, ?_⟩) hHeld ?_ ?_
         rotate_left
         ·rintro w' ⟨s0, s1, s2, s3, s4, s5, s6, s7, s8, s9, s10, s11, s12, s13, s14, s15, s16, s17⟩
          go_simp
          with_reducible rfl
         rotate_left
         ·simp only [Act.put, List.setIfInBounds_toArray, List.set_cons_zero, List.set_cons_succ, i64_w, i32_w]
          rfl
         refine one_ (i := 32) (N := some 46) (bl 33 43) rfl rfl (one_of HT_.out (by kernel_rfl)) (by decide) (fun K hK => ?_)
         refine goes_ Try.func27 (by kernel_rfl) rfl #[.agg #[.int .i64 ((rd_T36 l0 x5_1).f0.f0), .int .i64 ((rd_T36 l0 x5_1).f0.f1)], .agg #[.int .i64 a1_0, .int .i64 a1_1]] (by rfl) rfl rfl (by (try simp only [List.map_toArray, List.map_cons, List.map_nil]); first | done | rfl | (simp only [List.length_drop, List.length_take]; rfl)) ?_
         with_reducible refine (quernref13_Same.calls ((rd_T36 l0 x5_1).f0.f0) ((rd_T36 l0 x5_1).f0.f1) a1_0 a1_1 false _ A10.out).mono ?_
         rintro e w26 ⟨rfl, hb⟩
         refine ⟨_, rfl, ?_⟩
         have n0_ := Aside0.mk (blk_below (g := gb130) (o := .cells #[.int .i64 a1_0, .int .i64 a1_1] 24 (0, 0)) (by (with_reducible repeat (first | refine blk_drewN ?_ _ | refine blk_drew ?_ | refine blk_alloc ?_ _)); exact BK130.out) hb)
         have n1_ := Aside0.mk (below_step (by repeat (first | (with_reducible first | exact HB.out | apply below_alloc | apply pw_below_drewN | apply below_drew1 | refine below_set ?_ GE130.out) | exact HB.out)) hb)
         clear BK130
         clear HB
         have BK130 := n0_
         have HB := n1_
         clear n0_ n1_
         (try clear hb)
         (try clear hb2)
         (try clear hk)
         (try clear hi)
         refine hK.out _ _ ⟨(blk_cell BK130.out 0).trans rfl, (blk_cell BK130.out 1).trans rfl, (cellA HB hw131_0), (cellA HB hw131_1), (cellA HB hw131_2), (cellA HB hw131_3), (cellA HB hw133_0), (cellA HB hw133_1), (cellA HB hw133_2), (cellA HB hw133_3), (cellA HB hw135_0), (cellA HB hw135_1), (cellA HB hw135_2), (cellA HB hw135_3), (cellA HB hw137_0), (cellA HB hw137_1), (cellA HB hw137_2), (cellA HB hw137_3)⟩ (fun hHeld => ?_)
         clear hK K
         refine norm_ (a' := ?_) ?_ ?_
         rotate_left
         ·show Act.put _ (some 46) _ = _
          simp only [Act.put, List.setIfInBounds_toArray, List.set_cons_zero, List.set_cons_succ, i64_w, i32_w]
          rfl
         refine pure_ (i := 33) (N := some 47) (v := ?_) (a' := ?_) (bl 34 43) rfl rfl (any_of HT_.out (by kernel_rfl)) (fun _ _ _ h => h) (Or.inl ⟨by rfl, ?_⟩) ?_ ?_
         rotate_left
         ·intro w'
          go_simp
          with_reducible rfl
         rotate_left
         ·simp only [Act.put, List.setIfInBounds_toArray, List.set_cons_zero, List.set_cons_succ, i64_w, i32_w]
          rfl
         refine pure_ (i := 34) (N := some 48) (v := ?_) (a' := ?_) (bl 35 43) rfl rfl (any_of HT_.out (by kernel_rfl)) (fun _ _ _ h => h) (Or.inl ⟨by rfl, ?_⟩) ?_ ?_
         rotate_left
         ·intro w'
          go_simp
          with_reducible rfl
         rotate_left
         ·simp only [Act.put, List.setIfInBounds_toArray, List.set_cons_zero, List.set_cons_succ, i64_w, i32_w]
          rfl
         refine pure_ (i := 35) (N := some 49) (v := ?_) (a' := ?_) (bl 36 43) rfl rfl (any_of HT_.out (by kernel_rfl)) (fun _ _ _ h => h) (Or.inl ⟨by rfl, ?_⟩) ?_ ?_
         rotate_left
         ·intro w'
          go_simp
          with_reducible rfl
         rotate_left
         ·simp only [Act.put, List.setIfInBounds_toArray, List.set_cons_zero, List.set_cons_succ, i64_w, i32_w]
          rfl
         refine pure_ (i := 36) (N := some 50) (v := ?_) (a' := ?_) (bl 37 43) rfl rfl (any_of HT_.out (by kernel_rfl)) (fun _ _ _ h => h) (Or.inl ⟨by rfl, ?_⟩) ?_ ?_
         rotate_left
         ·intro w'
          go_simp
          with_reducible rfl
         rotate_left
         ·simp only [Act.put, List.setIfInBounds_toArray, List.set_cons_zero, List.set_cons_succ, i64_w, i32_w]
          rfl
         refine pure_ (i := 37) (N := some 51) (v := ?_) (a' := ?_) (bl 38 43) rfl rfl (any_of HT_.out (by kernel_rfl)) (fun _ _ _ h => h) (Or.inl ⟨by rfl, ?_⟩) ?_ ?_
         rotate_left
         ·intro w'
          go_simp
          with_reducible rfl
         rotate_left
         ·simp only [Act.put, List.setIfInBounds_toArray, List.set_cons_zero, List.set_cons_succ, i64_w, i32_w]
          rfl
         refine pure_ (i := 38) (N := some 52) (v := ?_) (a' := ?_) (bl 39 43) rfl rfl (any_of HT_.out (by kernel_rfl)) (fun _ _ _ h => h) (Or.inl ⟨by rfl, ?_⟩) ?_ ?_
         rotate_left
         ·intro w'
          go_simp
          with_reducible rfl
         rotate_left
         ·simp only [Act.put, List.setIfInBounds_toArray, List.set_cons_zero, List.set_cons_succ, i64_w, i32_w]
          rfl
         refine take_ (i := 39) (N := some 53) (v := ?_) (a' := ?_) (bl 40 43) rfl rfl (take_ofW HT_.out HW_.out (by kernel_rfl)) (fun _ _ _ h => h) (Or.inl ⟨by rfl, ?_⟩) hHeld ?_ ?_
         rotate_left
         ·rintro w' ⟨s0, s1, s2, s3, s4, s5, s6, s7, s8, s9, s10, s11, s12, s13, s14, s15, s16, s17⟩
          go_simp
          with_reducible rfl
         rotate_left
         ·simp only [Act.put, List.setIfInBounds_toArray, List.set_cons_zero, List.set_cons_succ, i64_w, i32_w]
          rfl
         refine take_ (i := 40) (N := some 54) (v := ?_) (a' := ?_) (bl 41 43) rfl rfl (take_ofW HT_.out HW_.out (by kernel_rfl)) (fun _ _ _ h => h) (Or.inl ⟨by rfl, ?_⟩) hHeld ?_ ?_
         rotate_left
         ·rintro w' ⟨s0, s1, s2, s3, s4, s5, s6, s7, s8, s9, s10, s11, s12, s13, s14, s15, s16, s17⟩
          go_simp
          with_reducible rfl
         rotate_left
         ·simp only [Act.put, List.setIfInBounds_toArray, List.set_cons_zero, List.set_cons_succ, i64_w, i32_w]
          rfl
         refine one_ (i := 41) (N := some 55) (bl 42 43) rfl rfl (one_of HT_.out (by kernel_rfl)) (by decide) (fun K hK => ?_)
         refine goes_ Try.func27 (by kernel_rfl) rfl #[.agg #[.int .i64 ((rd_T36 l0 x5_1).f1.f0), .int .i64 ((rd_T36 l0 x5_1).f1.f1)], .agg #[.int .i64 a1_0, .int .i64 a1_1]] (by rfl) rfl rfl (by (try simp only [List.map_toArray, List.map_cons, List.map_nil]); first | done | rfl | (simp only [List.length_drop, List.length_take]; rfl)) ?_
         with_reducible refine (quernref13_Same.calls ((rd_T36 l0 x5_1).f1.f0) ((rd_T36 l0 x5_1).f1.f1) a1_0 a1_1 false _ A16.out).mono ?_
         rintro e w27 ⟨rfl, hb⟩
         refine ⟨_, rfl, ?_⟩
         have n0_ := Aside0.mk (blk_below (g := gb130) (o := .cells #[.int .i64 a1_0, .int .i64 a1_1] 24 (0, 0)) (by (with_reducible repeat (first | refine blk_drewN ?_ _ | refine blk_drew ?_ | refine blk_alloc ?_ _)); exact BK130.out) hb)
         have n1_ := Aside0.mk (below_step (by repeat (first | (with_reducible first | exact HB.out | apply below_alloc | apply pw_below_drewN | apply below_drew1 | refine below_set ?_ GE130.out) | exact HB.out)) hb)
         clear BK130
         clear HB
         have BK130 := n0_
         have HB := n1_
         clear n0_ n1_
         (try clear hb)
         (try clear hb2)
         (try clear hk)
         (try clear hi)
         refine hK.out _ _ ⟨(blk_cell BK130.out 0).trans rfl, (blk_cell BK130.out 1).trans rfl, (cellA HB hw131_0), (cellA HB hw131_1), (cellA HB hw131_2), (cellA HB hw131_3), (cellA HB hw133_0), (cellA HB hw133_1), (cellA HB hw133_2), (cellA HB hw133_3), (cellA HB hw135_0), (cellA HB hw135_1), (cellA HB hw135_2), (cellA HB hw135_3), (cellA HB hw137_0), (cellA HB hw137_1), (cellA HB hw137_2), (cellA HB hw137_3)⟩ (fun hHeld => ?_)
         clear hK K
         refine norm_ (a' := ?_) ?_ ?_
         rotate_left
         ·show Act.put _ (some 55) _ = _
          simp only [Act.put, List.setIfInBounds_toArray, List.set_cons_zero, List.set_cons_succ, i64_w, i32_w]
          rfl
         refine pure_ (i := 42) (N := some 56) (v := ?_) (a' := ?_) (bl 43 43) rfl rfl (any_of HT_.out (by kernel_rfl)) (fun _ _ _ h => h) (Or.inl ⟨by rfl, ?_⟩) ?_ ?_
         rotate_left
         ·intro w'
          go_simp
          with_reducible rfl
         rotate_left
         ·simp only [Act.put, List.setIfInBounds_toArray, List.set_cons_zero, List.set_cons_succ, i64_w, i32_w]
          rfl
         refine done_ (done_of HT_.out (by kernel_rfl)) ?_
         try go_wp2
         go_roundg k1
         case measure => have := HK1.out; omega
         case rel => exact ⟨(wrap64 (x5_1 + 1)), (by first | rfl | (simp; done) | (simp [*]; done)), H', ⟨by have := HK1.out; omega⟩, ⟨by (with_reducible repeat (first | refine blk_drewN ?_ _ | refine blk_drew ?_ | refine blk_alloc ?_ _)); exact BK130.out⟩, ⟨by repeat (first | (with_reducible first | exact HB.out | apply below_alloc | apply pw_below_drewN | apply below_drew1 | refine below_set ?_ GE130.out) | exact HB.out)⟩⟩
      ·replace c9 := Bool.eq_false_iff.mpr c9
       subst c9
       have H1 : (if ((rd_T36 l0 x5_1).f1.f0) = 3 then ((quernref13_Same.f ((rd_T36 l0 x5_1).f0.f0) ((rd_T36 l0 x5_1).f0.f1) a1_0 a1_1).bind fun t141 => (if t141 = true then (some 131) else ((quernref13_Same.f ((rd_T36 l0 x5_1).f1.f0) ((rd_T36 l0 x5_1).f1.f1) a1_0 a1_1).bind fun t143 => (if t143 = true then (some 131) else (quernref13_Refuse.l0 k1 l0 (wrap64 (x5_1 + 1)) a1_0 a1_1))))) else (some 131)) = some r := by rw [if_neg (show ¬ (false = true) by decide)] at H; exact H
       clear H
       have H := H1
       clear H1
       by_cases c28 : ((rd_T36 l0 x5_1).f1.f0) = 3
       ·rw [if_pos c28] at H
        have c28b0 : (((rd_T36 l0 x5_1).f1.f0) == 3) = true := beq_iff_eq.mpr c28
        have c28b1 : (((rd_T36 l0 x5_1).f1.f0) != 3) = false := bne_eq_false_iff_eq.mpr c28
        clear c28
        replace H := Option.bind_eq_some_iff.mp H
        obtain ⟨t141, A290, H⟩ := H
        replace H : (if t141 = true then (some 131) else ((quernref13_Same.f ((rd_T36 l0 x5_1).f1.f0) ((rd_T36 l0 x5_1).f1.f1) a1_0 a1_1).bind fun t143 => (if t143 = true then (some 131) else (quernref13_Refuse.l0 k1 l0 (wrap64 (x5_1 + 1)) a1_0 a1_1)))) = some r := H
        have A29 := Aside0.mk A290
        clear A290
        by_cases c30 : t141 = true
        ·subst c30
         have H1 : (some 131) = some r := by rw [if_pos rfl] at H; exact H
         clear H
         have H := H1
         clear H1
         obtain rfl := Option.some.inj H
         try go_wp2
         have n0_ := Aside0.mk (blk_drew BK130.out)
         have n1_ := Aside0.mk (below_drew1 HB.out)
         clear BK130
         clear HB
         have BK130 := n0_
         have HB := n1_
         clear n0_ n1_
         have p131 : 0 ≤ (x5_1 : Int) := of_decide_eq_true (by first | (with_reducible assumption) | assumption)
         have q131 : x5_1 < (l0.length : Int) := of_decide_eq_true (by first | (with_reducible assumption) | assumption)
         obtain ⟨ad131, e131, hx131_0, hx131_1, hx131_2, hx131_3⟩ := at_T36 HR0.out x5_1 p131 q131
         have hw131_3 := hx131_3
         have hw131_2 := hx131_2
         have hw131_1 := hx131_1
         have hw131_0 := hx131_0
         cases e131
         replace hx131_0 := cellA HB hx131_0
         replace hx131_1 := cellA HB hx131_1
         replace hx131_2 := cellA HB hx131_2
         replace hx131_3 := cellA HB hx131_3
         replace p131 := eq_true p131
         replace q131 := eq_true q131
         have p133 : 0 ≤ (x5_1 : Int) := of_decide_eq_true (by first | (with_reducible assumption) | assumption)
         have q133 : x5_1 < (l0.length : Int) := of_decide_eq_true (by first | (with_reducible assumption) | assumption)
         obtain ⟨ad133, e133, hx133_0, hx133_1, hx133_2, hx133_3⟩ := at_T36 HR0.out x5_1 p133 q133
         have hw133_3 := hx133_3
         have hw133_2 := hx133_2
         have hw133_1 := hx133_1
         have hw133_0 := hx133_0
         obtain rfl : ad131 = ad133 := (by injection e133)
         replace hx133_0 := cellA HB hx133_0
         replace hx133_1 := cellA HB hx133_1
         replace hx133_2 := cellA HB hx133_2
         replace hx133_3 := cellA HB hx133_3
         replace p133 := eq_true p133
         replace q133 := eq_true q133
         have p139 : 0 ≤ (x5_1 : Int) := of_decide_eq_true (by first | (with_reducible assumption) | assumption)
         have q139 : x5_1 < (l0.length : Int) := of_decide_eq_true (by first | (with_reducible assumption) | assumption)
         obtain ⟨ad139, e139, hx139_0, hx139_1, hx139_2, hx139_3⟩ := at_T36 HR0.out x5_1 p139 q139
         have hw139_3 := hx139_3
         have hw139_2 := hx139_2
         have hw139_1 := hx139_1
         have hw139_0 := hx139_0
         obtain rfl : ad131 = ad139 := (by injection e139)
         replace hx139_0 := cellA HB hx139_0
         replace hx139_1 := cellA HB hx139_1
         replace hx139_2 := cellA HB hx139_2
         replace hx139_3 := cellA HB hx139_3
         replace p139 := eq_true p139
         replace q139 := eq_true q139
         have p140 : 0 ≤ (x5_1 : Int) := of_decide_eq_true (by first | (with_reducible assumption) | assumption)
         have q140 : x5_1 < (l0.length : Int) := of_decide_eq_true (by first | (with_reducible assumption) | assumption)
         obtain ⟨ad140, e140, hx140_0, hx140_1, hx140_2, hx140_3⟩ := at_T36 HR0.out x5_1 p140 q140
         have hw140_3 := hx140_3
         have hw140_2 := hx140_2
         have hw140_1 := hx140_1
         have hw140_0 := hx140_0
         obtain rfl : ad131 = ad140 := (by injection e140)
         replace hx140_0 := cellA HB hx140_0
         replace hx140_1 := cellA HB hx140_1
         replace hx140_2 := cellA HB hx140_2
         replace hx140_3 := cellA HB hx140_3
         replace p140 := eq_true p140
         replace q140 := eq_true q140
         refine start_ (n := 43) (S := fun w' => w'.cell? ⟨gb130, 0, none⟩ = some (.int .i64 a1_0) ∧ w'.cell? ⟨gb130, 1, none⟩ = some (.int .i64 a1_1) ∧ w'.cell? (ad131.add ((x5_1).toNat * 4)) = some (.int .i64 ((rd_T36 l0 x5_1).f0.f0)) ∧ w'.cell? ⟨(ad131.add ((x5_1).toNat * 4)).block, (ad131.add ((x5_1).toNat * 4)).off + 1, none⟩ = some (.int .i64 ((rd_T36 l0 x5_1).f0.f1)) ∧ w'.cell? ⟨(ad131.add ((x5_1).toNat * 4)).block, (ad131.add ((x5_1).toNat * 4)).off + 2, none⟩ = some (.int .i64 ((rd_T36 l0 x5_1).f1.f0)) ∧ w'.cell? ⟨(ad131.add ((x5_1).toNat * 4)).block, (ad131.add ((x5_1).toNat * 4)).off + 3, none⟩ = some (.int .i64 ((rd_T36 l0 x5_1).f1.f1)) ∧ w'.cell? (ad131.add ((x5_1).toNat * 4)) = some (.int .i64 ((rd_T36 l0 x5_1).f0.f0)) ∧ w'.cell? ⟨(ad131.add ((x5_1).toNat * 4)).block, (ad131.add ((x5_1).toNat * 4)).off + 1, none⟩ = some (.int .i64 ((rd_T36 l0 x5_1).f0.f1)) ∧ w'.cell? ⟨(ad131.add ((x5_1).toNat * 4)).block, (ad131.add ((x5_1).toNat * 4)).off + 2, none⟩ = some (.int .i64 ((rd_T36 l0 x5_1).f1.f0)) ∧ w'.cell? ⟨(ad131.add ((x5_1).toNat * 4)).block, (ad131.add ((x5_1).toNat * 4)).off + 3, none⟩ = some (.int .i64 ((rd_T36 l0 x5_1).f1.f1)) ∧ w'.cell? (ad131.add ((x5_1).toNat * 4)) = some (.int .i64 ((rd_T36 l0 x5_1).f0.f0)) ∧ w'.cell? ⟨(ad131.add ((x5_1).toNat * 4)).block, (ad131.add ((x5_1).toNat * 4)).off + 1, none⟩ = some (.int .i64 ((rd_T36 l0 x5_1).f0.f1)) ∧ w'.cell? ⟨(ad131.add ((x5_1).toNat * 4)).block, (ad131.add ((x5_1).toNat * 4)).off + 2, none⟩ = some (.int .i64 ((rd_T36 l0 x5_1).f1.f0)) ∧ w'.cell? ⟨(ad131.add ((x5_1).toNat * 4)).block, (ad131.add ((x5_1).toNat * 4)).off + 3, none⟩ = some (.int .i64 ((rd_T36 l0 x5_1).f1.f1)) ∧ w'.cell? (ad131.add ((x5_1).toNat * 4)) = some (.int .i64 ((rd_T36 l0 x5_1).f0.f0)) ∧ w'.cell? ⟨(ad131.add ((x5_1).toNat * 4)).block, (ad131.add ((x5_1).toNat * 4)).off + 1, none⟩ = some (.int .i64 ((rd_T36 l0 x5_1).f0.f1)) ∧ w'.cell? ⟨(ad131.add ((x5_1).toNat * 4)).block, (ad131.add ((x5_1).toNat * 4)).off + 2, none⟩ = some (.int .i64 ((rd_T36 l0 x5_1).f1.f0)) ∧ w'.cell? ⟨(ad131.add ((x5_1).toNat * 4)).block, (ad131.add ((x5_1).toNat * 4)).off + 3, none⟩ = some (.int .i64 ((rd_T36 l0 x5_1).f1.f1))) (ds := []) (bl 0 43) (by kernel_rfl) rfl rfl ⟨(blk_cell BK130.out 0).trans rfl, (blk_cell BK130.out 1).trans rfl, (cellA HB hw131_0), (cellA HB hw131_1), (cellA HB hw131_2), (cellA HB hw131_3), (cellA HB hw133_0), (cellA HB hw133_1), (cellA HB hw133_2), (cellA HB hw133_3), (cellA HB hw139_0), (cellA HB hw139_1), (cellA HB hw139_2), (cellA HB hw139_3), (cellA HB hw140_0), (cellA HB hw140_1), (cellA HB hw140_2), (cellA HB hw140_3)⟩ (fun hHeld => ?_); refine with_tabW quernref13_Refuse.tab4 quernref13_Refuse.bits4 (fun HT_ HW_ => ?_)
         generalize wr.drew = w31 at BK130 HB hx131_0 hx131_1 hx131_2 hx131_3 hx133_0 hx133_1 hx133_2 hx133_3 hx139_0 hx139_1 hx139_2 hx139_3 hx140_0 hx140_1 hx140_2 hx140_3 hHeld ⊢
         refine pure_ (i := 0) (N := some 14) (v := ?_) (a' := ?_) (bl 1 43) rfl rfl (any_of HT_.out (by kernel_rfl)) (fun _ _ _ h => h) (Or.inl ⟨by rfl, ?_⟩) ?_ ?_
         rotate_left
         ·intro w'
          go_simp
          with_reducible rfl
         rotate_left
         ·simp only [Act.put, List.setIfInBounds_toArray, List.set_cons_zero, List.set_cons_succ, i64_w, i32_w]
          rfl
         refine pure_ (i := 1) (N := some 15) (v := ?_) (a' := ?_) (bl 2 43) rfl rfl (any_of HT_.out (by kernel_rfl)) (fun _ _ _ h => h) (Or.inl ⟨by rfl, ?_⟩) ?_ ?_
         rotate_left
         ·intro w'
          go_simp
          with_reducible rfl
         rotate_left
         ·simp only [Act.put, List.setIfInBounds_toArray, List.set_cons_zero, List.set_cons_succ, i64_w, i32_w]
          rfl
         refine pure_ (i := 2) (N := some 16) (v := ?_) (a' := ?_) (bl 3 43) rfl rfl (any_of HT_.out (by kernel_rfl)) (fun _ _ _ h => h) (Or.inl ⟨by rfl, ?_⟩) ?_ ?_
         rotate_left
         ·intro w'
          go_simp
          with_reducible rfl
         rotate_left
         ·simp only [Act.put, List.setIfInBounds_toArray, List.set_cons_zero, List.set_cons_succ, i64_w, i32_w]
          rfl
         refine pure_ (i := 3) (N := some 17) (v := ?_) (a' := ?_) (bl 4 43) rfl rfl (any_of HT_.out (by kernel_rfl)) (fun _ _ _ h => h) (Or.inl ⟨by rfl, ?_⟩) ?_ ?_
         rotate_left
         ·intro w'
          go_simp
          with_reducible rfl
         rotate_left
         ·simp only [Act.put, List.setIfInBounds_toArray, List.set_cons_zero, List.set_cons_succ, i64_w, i32_w]
          rfl
         refine take_ (i := 4) (N := some 18) (v := ?_) (a' := ?_) (bl 5 43) rfl rfl (take_ofW HT_.out HW_.out (by kernel_rfl)) (fun _ _ _ h => h) (Or.inl ⟨by rfl, ?_⟩) hHeld ?_ ?_
         rotate_left
         ·rintro w' ⟨s0, s1, s2, s3, s4, s5, s6, s7, s8, s9, s10, s11, s12, s13, s14, s15, s16, s17⟩
          go_simp
          with_reducible rfl
         rotate_left
         ·simp only [Act.put, List.setIfInBounds_toArray, List.set_cons_zero, List.set_cons_succ, i64_w, i32_w]
          rfl
         refine one_ (i := 5) (N := some 19) (bl 6 43) rfl rfl (one_of HT_.out (by kernel_rfl)) (by decide) (fun K hK => ?_)
         refine goes_ Try.func35 (by kernel_rfl) rfl #[.agg #[.int .i64 ((rd_T36 l0 x5_1).f0.f0), .int .i64 ((rd_T36 l0 x5_1).f0.f1)]] (by rfl) rfl rfl (by (try simp only [List.map_toArray, List.map_cons, List.map_nil]); first | done | rfl | (simp only [List.length_drop, List.length_take]; rfl)) ?_
         with_reducible refine (quernref13_Place.calls ((rd_T36 l0 x5_1).f0.f0) ((rd_T36 l0 x5_1).f0.f1) true _ A6.out).mono ?_
         rintro e w32 ⟨rfl, hb⟩
         refine ⟨_, rfl, ?_⟩
         have n0_ := Aside0.mk (blk_below (g := gb130) (o := .cells #[.int .i64 a1_0, .int .i64 a1_1] 24 (0, 0)) (by (with_reducible repeat (first | refine blk_drewN ?_ _ | refine blk_drew ?_ | refine blk_alloc ?_ _)); exact BK130.out) hb)
         have n1_ := Aside0.mk (below_step (by repeat (first | (with_reducible first | exact HB.out | apply below_alloc | apply pw_below_drewN | apply below_drew1 | refine below_set ?_ GE130.out) | exact HB.out)) hb)
         clear BK130
         clear HB
         have BK130 := n0_
         have HB := n1_
         clear n0_ n1_
         (try clear hb)
         (try clear hb2)
         (try clear hk)
         (try clear hi)
         refine hK.out _ _ ⟨(blk_cell BK130.out 0).trans rfl, (blk_cell BK130.out 1).trans rfl, (cellA HB hw131_0), (cellA HB hw131_1), (cellA HB hw131_2), (cellA HB hw131_3), (cellA HB hw133_0), (cellA HB hw133_1), (cellA HB hw133_2), (cellA HB hw133_3), (cellA HB hw139_0), (cellA HB hw139_1), (cellA HB hw139_2), (cellA HB hw139_3), (cellA HB hw140_0), (cellA HB hw140_1), (cellA HB hw140_2), (cellA HB hw140_3)⟩ (fun hHeld => ?_)
         clear hK K
         refine norm_ (a' := ?_) ?_ ?_
         rotate_left
         ·show Act.put _ (some 19) _ = _
          simp only [Act.put, List.setIfInBounds_toArray, List.set_cons_zero, List.set_cons_succ, i64_w, i32_w]
          rfl
         refine pure_ (i := 6) (N := some 20) (v := ?_) (a' := ?_) (bl 7 43) rfl rfl (any_of HT_.out (by kernel_rfl)) (fun _ _ _ h => h) (Or.inl ⟨by rfl, ?_⟩) ?_ ?_
         rotate_left
         ·intro w'
          go_simp
          with_reducible rfl
         rotate_left
         ·simp only [Act.put, List.setIfInBounds_toArray, List.set_cons_zero, List.set_cons_succ, i64_w, i32_w]
          rfl
         refine pure_ (i := 7) (N := some 21) (v := ?_) (a' := ?_) (bl 8 43) rfl rfl (any_of HT_.out (by kernel_rfl)) (fun _ _ _ h => h) (Or.inl ⟨by rfl, ?_⟩) ?_ ?_
         rotate_left
         ·intro w'
          go_simp
          with_reducible rfl
         rotate_left
         ·simp only [Act.put, List.setIfInBounds_toArray, List.set_cons_zero, List.set_cons_succ, i64_w, i32_w]
          rfl
         refine pure_ (i := 8) (N := some 22) (v := ?_) (a' := ?_) (bl 9 43) rfl rfl (any_of HT_.out (by kernel_rfl)) (fun _ _ _ h => h) (Or.inl ⟨by rfl, ?_⟩) ?_ ?_
         rotate_left
         ·intro w'
          go_simp
          with_reducible rfl
         rotate_left
         ·simp only [Act.put, List.setIfInBounds_toArray, List.set_cons_zero, List.set_cons_succ, i64_w, i32_w]
          rfl
         refine pure_ (i := 9) (N := some 23) (v := ?_) (a' := ?_) (bl 10 43) rfl rfl (any_of HT_.out (by kernel_rfl)) (fun _ _ _ h => h) (Or.inl ⟨by rfl, ?_⟩) ?_ ?_
         rotate_left
         ·intro w'
          go_simp
          with_reducible rfl
         rotate_left
         ·simp only [Act.put, List.setIfInBounds_toArray, List.set_cons_zero, List.set_cons_succ, i64_w, i32_w]
          rfl
         refine pure_ (i := 10) (N := some 24) (v := ?_) (a' := ?_) (bl 11 43) rfl rfl (any_of HT_.out (by kernel_rfl)) (fun _ _ _ h => h) (Or.inl ⟨by rfl, ?_⟩) ?_ ?_
         rotate_left
         ·intro w'
          go_simp
          with_reducible rfl
         rotate_left
         ·simp only [Act.put, List.setIfInBounds_toArray, List.set_cons_zero, List.set_cons_succ, i64_w, i32_w]
          rfl
         refine pure_ (i := 11) (N := some 25) (v := ?_) (a' := ?_) (bl 12 43) rfl rfl (any_of HT_.out (by kernel_rfl)) (fun _ _ _ h => h) (Or.inl ⟨by rfl, ?_⟩) ?_ ?_
         rotate_left
         ·intro w'
          go_simp
          with_reducible rfl
         rotate_left
         ·simp only [Act.put, List.setIfInBounds_toArray, List.set_cons_zero, List.set_cons_succ, i64_w, i32_w]
          rfl
         refine take_ (i := 12) (N := some 26) (v := ?_) (a' := ?_) (bl 13 43) rfl rfl (take_ofW HT_.out HW_.out (by kernel_rfl)) (fun _ _ _ h => h) (Or.inl ⟨by rfl, ?_⟩) hHeld ?_ ?_
         rotate_left
         ·rintro w' ⟨s0, s1, s2, s3, s4, s5, s6, s7, s8, s9, s10, s11, s12, s13, s14, s15, s16, s17⟩
          go_simp
          with_reducible rfl
         rotate_left
         ·simp only [Act.put, List.setIfInBounds_toArray, List.set_cons_zero, List.set_cons_succ, i64_w, i32_w]
          rfl
         refine one_ (i := 13) (N := some 27) (bl 14 43) rfl rfl (one_of HT_.out (by kernel_rfl)) (by decide) (fun K hK => ?_)
         refine goes_ Try.func35 (by kernel_rfl) rfl #[.agg #[.int .i64 ((rd_T36 l0 x5_1).f1.f0), .int .i64 ((rd_T36 l0 x5_1).f1.f1)]] (by rfl) rfl rfl (by (try simp only [List.map_toArray, List.map_cons, List.map_nil]); first | done | rfl | (simp only [List.length_drop, List.length_take]; rfl)) ?_
         with_reducible refine (quernref13_Place.calls ((rd_T36 l0 x5_1).f1.f0) ((rd_T36 l0 x5_1).f1.f1) false _ A8.out).mono ?_
         rintro e w33 ⟨rfl, hb⟩
         refine ⟨_, rfl, ?_⟩
         have n0_ := Aside0.mk (blk_below (g := gb130) (o := .cells #[.int .i64 a1_0, .int .i64 a1_1] 24 (0, 0)) (by (with_reducible repeat (first | refine blk_drewN ?_ _ | refine blk_drew ?_ | refine blk_alloc ?_ _)); exact BK130.out) hb)
         have n1_ := Aside0.mk (below_step (by repeat (first | (with_reducible first | exact HB.out | apply below_alloc | apply pw_below_drewN | apply below_drew1 | refine below_set ?_ GE130.out) | exact HB.out)) hb)
         clear BK130
         clear HB
         have BK130 := n0_
         have HB := n1_
         clear n0_ n1_
         (try clear hb)
         (try clear hb2)
         (try clear hk)
         (try clear hi)
         refine hK.out _ _ ⟨(blk_cell BK130.out 0).trans rfl, (blk_cell BK130.out 1).trans rfl, (cellA HB hw131_0), (cellA HB hw131_1), (cellA HB hw131_2), (cellA HB hw131_3), (cellA HB hw133_0), (cellA HB hw133_1), (cellA HB hw133_2), (cellA HB hw133_3), (cellA HB hw139_0), (cellA HB hw139_1), (cellA HB hw139_2), (cellA HB hw139_3), (cellA HB hw140_0), (cellA HB hw140_1), (cellA HB hw140_2), (cellA HB hw140_3)⟩ (fun hHeld => ?_)
         clear hK K
         refine norm_ (a' := ?_) ?_ ?_
         rotate_left
         ·show Act.put _ (some 27) _ = _
          simp only [Act.put, List.setIfInBounds_toArray, List.set_cons_zero, List.set_cons_succ, i64_w, i32_w]
          rfl
         refine pure_ (i := 14) (N := some 28) (v := ?_) (a' := ?_) (bl 15 43) rfl rfl (any_of HT_.out (by kernel_rfl)) (fun _ _ _ h => h) (Or.inl ⟨by rfl, ?_⟩) ?_ ?_
         rotate_left
         ·intro w'
          go_simp
          with_reducible rfl
         rotate_left
         ·simp only [Act.put, List.setIfInBounds_toArray, List.set_cons_zero, List.set_cons_succ, i64_w, i32_w]
          rfl
         refine pure_ (i := 15) (N := some 29) (v := ?_) (a' := ?_) (bl 16 43) rfl rfl (any_of HT_.out (by kernel_rfl)) (fun _ _ _ h => h) (Or.inl ⟨by rfl, ?_⟩) ?_ ?_
         rotate_left
         ·intro w'
          go_simp
          with_reducible rfl
         rotate_left
         ·simp only [Act.put, List.setIfInBounds_toArray, List.set_cons_zero, List.set_cons_succ, i64_w, i32_w]
          rfl
         refine pure_ (i := 16) (N := some 30) (v := ?_) (a' := ?_) (bl 17 43) rfl rfl (any_of HT_.out (by kernel_rfl)) (fun _ _ _ h => h) (Or.inl ⟨by rfl, ?_⟩) ?_ ?_
         rotate_left
         ·intro w'
          go_simp
          with_reducible rfl
         rotate_left
         ·simp only [Act.put, List.setIfInBounds_toArray, List.set_cons_zero, List.set_cons_succ, i64_w, i32_w]
          rfl
         refine pure_ (i := 17) (N := some 31) (v := ?_) (a' := ?_) (bl 18 43) rfl rfl (any_of HT_.out (by kernel_rfl)) (fun _ _ _ h => h) (Or.inl ⟨by rfl, ?_⟩) ?_ ?_
         rotate_left
         ·intro w'
          go_simp
          with_reducible rfl
         rotate_left
         ·simp only [Act.put, List.setIfInBounds_toArray, List.set_cons_zero, List.set_cons_succ, i64_w, i32_w]
          rfl
         refine pure_ (i := 18) (N := some 32) (v := ?_) (a' := ?_) (bl 19 43) rfl rfl (any_of HT_.out (by kernel_rfl)) (fun _ _ _ h => h) (Or.inl ⟨by rfl, ?_⟩) ?_ ?_
         rotate_left
         ·intro w'
          go_simp
          with_reducible rfl
         rotate_left
         ·simp only [Act.put, List.setIfInBounds_toArray, List.set_cons_zero, List.set_cons_succ, i64_w, i32_w]
          rfl
         refine pure_ (i := 19) (N := some 33) (v := ?_) (a' := ?_) (bl 20 43) rfl rfl (any_of HT_.out (by kernel_rfl)) (fun _ _ _ h => h) (Or.inl ⟨by rfl, ?_⟩) ?_ ?_
         rotate_left
         ·intro w'
          go_simp
          with_reducible rfl
         rotate_left
         ·simp only [Act.put, List.setIfInBounds_toArray, List.set_cons_zero, List.set_cons_succ, i64_w, i32_w]
          rfl
         refine pure_ (i := 20) (N := some 34) (v := ?_) (a' := ?_) (bl 21 43) rfl rfl (any_of HT_.out (by kernel_rfl)) (fun _ _ _ h => h) (Or.inl ⟨by rfl, ?_⟩) ?_ ?_
         rotate_left
         ·intro w'
          go_simp
          with_reducible rfl
         rotate_left
         ·simp only [Act.put, List.setIfInBounds_toArray, List.set_cons_zero, List.set_cons_succ, i64_w, i32_w]
          rfl
         refine take_ (i := 21) (N := some 35) (v := ?_) (a' := ?_) (bl 22 43) rfl rfl (take_ofW HT_.out HW_.out (by kernel_rfl)) (fun _ _ _ h => h) (Or.inl ⟨by rfl, ?_⟩) hHeld ?_ ?_
         rotate_left
         ·rintro w' ⟨s0, s1, s2, s3, s4, s5, s6, s7, s8, s9, s10, s11, s12, s13, s14, s15, s16, s17⟩
          go_simp
          with_reducible rfl
         rotate_left
         ·simp only [Act.put, List.setIfInBounds_toArray, List.set_cons_zero, List.set_cons_succ, i64_w, i32_w]
          rfl
         refine pure_ (i := 22) (N := some 36) (v := ?_) (a' := ?_) (bl 23 43) rfl rfl (any_of HT_.out (by kernel_rfl)) (fun _ _ _ h => h) (Or.inl ⟨by rfl, ?_⟩) ?_ ?_
         rotate_left
         ·intro w'
          go_simp
          with_reducible rfl
         rotate_left
         ·simp only [Act.put, List.setIfInBounds_toArray, List.set_cons_zero, List.set_cons_succ, i64_w, i32_w]
          rfl
         refine pure_ (i := 23) (N := some 37) (v := ?_) (a' := ?_) (bl 24 43) rfl rfl (any_of HT_.out (by kernel_rfl)) (fun _ _ _ h => h) (Or.inl ⟨by rfl, ?_⟩) ?_ ?_
         rotate_left
         ·intro w'
          go_simp
          with_reducible rfl
         rotate_left
         ·simp only [Act.put, List.setIfInBounds_toArray, List.set_cons_zero, List.set_cons_succ, i64_w, i32_w]
          rfl
         refine pure_ (i := 24) (N := some 38) (v := ?_) (a' := ?_) (bl 25 43) rfl rfl (any_of HT_.out (by kernel_rfl)) (fun _ _ _ h => h) (Or.inl ⟨by rfl, ?_⟩) ?_ ?_
         rotate_left
         ·intro w'
          go_simp
          with_reducible rfl
         rotate_left
         ·simp only [Act.put, List.setIfInBounds_toArray, List.set_cons_zero, List.set_cons_succ, i64_w, i32_w]
          rfl
         refine pure_ (i := 25) (N := some 39) (v := ?_) (a' := ?_) (bl 26 43) rfl rfl (any_of HT_.out (by kernel_rfl)) (fun _ _ _ h => h) (Or.inl ⟨by rfl, ?_⟩) ?_ ?_
         rotate_left
         ·intro w'
          go_simp
          with_reducible rfl
         rotate_left
         ·simp only [Act.put, List.setIfInBounds_toArray, List.set_cons_zero, List.set_cons_succ, i64_w, i32_w]
          rfl
         refine pure_ (i := 26) (N := some 40) (v := ?_) (a' := ?_) (bl 27 43) rfl rfl (any_of HT_.out (by kernel_rfl)) (fun _ _ _ h => h) (Or.inl ⟨by rfl, ?_⟩) ?_ ?_
         rotate_left
         ·intro w'
          go_simp
          with_reducible rfl
         rotate_left
         ·simp only [Act.put, List.setIfInBounds_toArray, List.set_cons_zero, List.set_cons_succ, i64_w, i32_w]
          rfl
         refine pure_ (i := 27) (N := some 41) (v := ?_) (a' := ?_) (bl 28 43) rfl rfl (any_of HT_.out (by kernel_rfl)) (fun _ _ _ h => h) (Or.inl ⟨by rfl, ?_⟩) ?_ ?_
         rotate_left
         ·intro w'
          go_simp
          with_reducible rfl
         rotate_left
         ·simp only [Act.put, List.setIfInBounds_toArray, List.set_cons_zero, List.set_cons_succ, i64_w, i32_w]
          rfl
         refine pure_ (i := 28) (N := some 42) (v := ?_) (a' := ?_) (bl 29 43) rfl rfl (any_of HT_.out (by kernel_rfl)) (fun _ _ _ h => h) (Or.inl ⟨by rfl, ?_⟩) ?_ ?_
         rotate_left
         ·intro w'
          go_simp
          with_reducible rfl
         rotate_left
         ·simp only [Act.put, List.setIfInBounds_toArray, List.set_cons_zero, List.set_cons_succ, i64_w, i32_w]
          rfl
         refine pure_ (i := 29) (N := some 43) (v := ?_) (a' := ?_) (bl 30 43) rfl rfl (any_of HT_.out (by kernel_rfl)) (fun _ _ _ h => h) (Or.inl ⟨by rfl, ?_⟩) ?_ ?_
         rotate_left
         ·intro w'
          go_simp
          with_reducible rfl
         rotate_left
         ·simp only [Act.put, List.setIfInBounds_toArray, List.set_cons_zero, List.set_cons_succ, i64_w, i32_w]
          rfl
         refine take_ (i := 30) (N := some 44) (v := ?_) (a' := ?_) (bl 31 43) rfl rfl (take_ofW HT_.out HW_.out (by kernel_rfl)) (fun _ _ _ h => h) (Or.inl ⟨by rfl, ?_⟩) hHeld ?_ ?_
         rotate_left
         ·rintro w' ⟨s0, s1, s2, s3, s4, s5, s6, s7, s8, s9, s10, s11, s12, s13, s14, s15, s16, s17⟩
          go_simp
          with_reducible rfl
         rotate_left
         ·simp only [Act.put, List.setIfInBounds_toArray, List.set_cons_zero, List.set_cons_succ, i64_w, i32_w]
          rfl
         refine take_ (i := 31) (N := some 45) (v := ?_) (a' := ?_) (bl 32 43) rfl rfl (take_ofW HT_.out HW_.out (by kernel_rfl)) (fun _ _ _ h => h) (Or.inl ⟨by rfl, ?_⟩) hHeld ?_ ?_
         rotate_left
         ·rintro w' ⟨s0, s1, s2, s3, s4, s5, s6, s7, s8, s9, s10, s11, s12, s13, s14, s15, s16, s17⟩
          go_simp
          with_reducible rfl
         rotate_left
         ·simp only [Act.put, List.setIfInBounds_toArray, List.set_cons_zero, List.set_cons_succ, i64_w, i32_w]
          rfl
         refine one_ (i := 32) (N := some 46) (bl 33 43) rfl rfl (one_of HT_.out (by kernel_rfl)) (by decide) (fun K hK => ?_)
         refine goes_ Try.func27 (by kernel_rfl) rfl #[.agg #[.int .i64 ((rd_T36 l0 x5_1).f0.f0), .int .i64 ((rd_T36 l0 x5_1).f0.f1)], .agg #[.int .i64 a1_0, .int .i64 a1_1]] (by rfl) rfl rfl (by (try simp only [List.map_toArray, List.map_cons, List.map_nil]); first | done | rfl | (simp only [List.length_drop, List.length_take]; rfl)) ?_
         with_reducible refine (quernref13_Same.calls ((rd_T36 l0 x5_1).f0.f0) ((rd_T36 l0 x5_1).f0.f1) a1_0 a1_1 true _ A29.out).mono ?_
         rintro e w34 ⟨rfl, hb⟩
         refine ⟨_, rfl, ?_⟩
         have n0_ := Aside0.mk (blk_below (g := gb130) (o := .cells #[.int .i64 a1_0, .int .i64 a1_1] 24 (0, 0)) (by (with_reducible repeat (first | refine blk_drewN ?_ _ | refine blk_drew ?_ | refine blk_alloc ?_ _)); exact BK130.out) hb)
         have n1_ := Aside0.mk (below_step (by repeat (first | (with_reducible first | exact HB.out | apply below_alloc | apply pw_below_drewN | apply below_drew1 | refine below_set ?_ GE130.out) | exact HB.out)) hb)
         clear BK130
         clear HB
         have BK130 := n0_
         have HB := n1_
         clear n0_ n1_
         (try clear hb)
         (try clear hb2)
         (try clear hk)
         (try clear hi)
         refine hK.out _ _ ⟨(blk_cell BK130.out 0).trans rfl, (blk_cell BK130.out 1).trans rfl, (cellA HB hw131_0), (cellA HB hw131_1), (cellA HB hw131_2), (cellA HB hw131_3), (cellA HB hw133_0), (cellA HB hw133_1), (cellA HB hw133_2), (cellA HB hw133_3), (cellA HB hw139_0), (cellA HB hw139_1), (cellA HB hw139_2), (cellA HB hw139_3), (cellA HB hw140_0), (cellA HB hw140_1), (cellA HB hw140_2), (cellA HB hw140_3)⟩ (fun hHeld => ?_)
         clear hK K
         refine norm_ (a' := ?_) ?_ ?_
         rotate_left
         ·show Act.put _ (some 46) _ = _
          simp only [Act.put, List.setIfInBounds_toArray, List.set_cons_zero, List.set_cons_succ, i64_w, i32_w]
          rfl
         refine pure_ (i := 33) (N := some 47) (v := ?_) (a' := ?_) (bl 34 43) rfl rfl (any_of HT_.out (by kernel_rfl)) (fun _ _ _ h => h) (Or.inl ⟨by rfl, ?_⟩) ?_ ?_
         rotate_left
         ·intro w'
          go_simp
          with_reducible rfl
         rotate_left
         ·simp only [Act.put, List.setIfInBounds_toArray, List.set_cons_zero, List.set_cons_succ, i64_w, i32_w]
          rfl
         refine pure_ (i := 34) (N := some 48) (v := ?_) (a' := ?_) (bl 35 43) rfl rfl (any_of HT_.out (by kernel_rfl)) (fun _ _ _ h => h) (Or.inl ⟨by rfl, ?_⟩) ?_ ?_
         rotate_left
         ·intro w'
          go_simp
          with_reducible rfl
         rotate_left
         ·simp only [Act.put, List.setIfInBounds_toArray, List.set_cons_zero, List.set_cons_succ, i64_w, i32_w]
          rfl
         refine pure_ (i := 35) (N := some 49) (v := undef) (a' := ?_) (bl 36 43) rfl rfl (any_of HT_.out (by kernel_rfl)) (fun _ _ _ h => h) (Or.inr ⟨by rfl, rfl⟩) ?_ ?_
         rotate_left
         ·simp only [Act.put, List.setIfInBounds_toArray, List.set_cons_zero, List.set_cons_succ, i64_w, i32_w]
          rfl
         refine pure_ (i := 36) (N := some 50) (v := undef) (a' := ?_) (bl 37 43) rfl rfl (any_of HT_.out (by kernel_rfl)) (fun _ _ _ h => h) (Or.inr ⟨by rfl, rfl⟩) ?_ ?_
         rotate_left
         ·simp only [Act.put, List.setIfInBounds_toArray, List.set_cons_zero, List.set_cons_succ, i64_w, i32_w]
          rfl
         refine pure_ (i := 37) (N := some 51) (v := undef) (a' := ?_) (bl 38 43) rfl rfl (any_of HT_.out (by kernel_rfl)) (fun _ _ _ h => h) (Or.inr ⟨by rfl, rfl⟩) ?_ ?_
         rotate_left
         ·simp only [Act.put, List.setIfInBounds_toArray, List.set_cons_zero, List.set_cons_succ, i64_w, i32_w]
          rfl
         refine pure_ (i := 38) (N := some 52) (v := undef) (a' := ?_) (bl 39 43) rfl rfl (any_of HT_.out (by kernel_rfl)) (fun _ _ _ h => h) (Or.inr ⟨by rfl, rfl⟩) ?_ ?_
         rotate_left
         ·simp only [Act.put, List.setIfInBounds_toArray, List.set_cons_zero, List.set_cons_succ, i64_w, i32_w]
          rfl
         refine pure_ (i := 39) (N := some 53) (v := undef) (a' := ?_) (bl 40 43) rfl rfl (any_of HT_.out (by kernel_rfl)) (fun _ _ _ h => h) (Or.inr ⟨by rfl, rfl⟩) ?_ ?_
         rotate_left
         ·simp only [Act.put, List.setIfInBounds_toArray, List.set_cons_zero, List.set_cons_succ, i64_w, i32_w]
          rfl
         refine pure_ (i := 40) (N := some 54) (v := undef) (a' := ?_) (bl 41 43) rfl rfl (any_of HT_.out (by kernel_rfl)) (fun _ _ _ h => h) (Or.inr ⟨by rfl, rfl⟩) ?_ ?_
         rotate_left
         ·simp only [Act.put, List.setIfInBounds_toArray, List.set_cons_zero, List.set_cons_succ, i64_w, i32_w]
          rfl
         refine pure_ (i := 41) (N := some 55) (v := undef) (a' := ?_) (bl 42 43) rfl rfl (any_of HT_.out (by kernel_rfl)) (fun _ _ _ h => h) (Or.inr ⟨by rfl, rfl⟩) ?_ ?_
         rotate_left
         ·simp only [Act.put, List.setIfInBounds_toArray, List.set_cons_zero, List.set_cons_succ, i64_w, i32_w]
          rfl
         refine pure_ (i := 42) (N := some 56) (v := ?_) (a' := ?_) (bl 43 43) rfl rfl (any_of HT_.out (by kernel_rfl)) (fun _ _ _ h => h) (Or.inl ⟨by rfl, ?_⟩) ?_ ?_
         rotate_left
         ·intro w'
          go_simp
          with_reducible rfl
         rotate_left
         ·simp only [Act.put, List.setIfInBounds_toArray, List.set_cons_zero, List.set_cons_succ, i64_w, i32_w]
          rfl
         refine done_ (done_of HT_.out (by kernel_rfl)) ?_
         try go_wp2
         go_ret
         exact ⟨by first | rfl | (simp [errW_none, errW_some] <;> rfl) | (simp [*, errW_none, errW_some] <;> rfl), by repeat (first | (with_reducible first | exact HB.out | apply below_alloc | apply pw_below_drewN | apply below_drew1 | refine below_set ?_ GE130.out) | exact HB.out)⟩
        ·replace c30 := Bool.eq_false_iff.mpr c30
         subst c30
         have H1 : ((quernref13_Same.f ((rd_T36 l0 x5_1).f1.f0) ((rd_T36 l0 x5_1).f1.f1) a1_0 a1_1).bind fun t143 => (if t143 = true then (some 131) else (quernref13_Refuse.l0 k1 l0 (wrap64 (x5_1 + 1)) a1_0 a1_1))) = some r := by rw [if_neg (show ¬ (false = true) by decide)] at H; exact H
         clear H
         have H := H1
         clear H1
         replace H := Option.bind_eq_some_iff.mp H
         obtain ⟨t143, A350, H⟩ := H
         replace H : (if t143 = true then (some 131) else (quernref13_Refuse.l0 k1 l0 (wrap64 (x5_1 + 1)) a1_0 a1_1)) = some r := H
         have A35 := Aside0.mk A350
         clear A350
         by_cases c36 : t143 = true
         ·subst c36
          have H1 : (some 131) = some r := by rw [if_pos rfl] at H; exact H
          clear H
          have H := H1
          clear H1
          obtain rfl := Option.some.inj H
          try go_wp2
          have n0_ := Aside0.mk (blk_drew BK130.out)
          have n1_ := Aside0.mk (below_drew1 HB.out)
          clear BK130
          clear HB
          have BK130 := n0_
          have HB := n1_
          clear n0_ n1_
          have p131 : 0 ≤ (x5_1 : Int) := of_decide_eq_true (by first | (with_reducible assumption) | assumption)
          have q131 : x5_1 < (l0.length : Int) := of_decide_eq_true (by first | (with_reducible assumption) | assumption)
          obtain ⟨ad131, e131, hx131_0, hx131_1, hx131_2, hx131_3⟩ := at_T36 HR0.out x5_1 p131 q131
          have hw131_3 := hx131_3
          have hw131_2 := hx131_2
          have hw131_1 := hx131_1
          have hw131_0 := hx131_0
          cases e131
          replace hx131_0 := cellA HB hx131_0
          replace hx131_1 := cellA HB hx131_1
          replace hx131_2 := cellA HB hx131_2
          replace hx131_3 := cellA HB hx131_3
          replace p131 := eq_true p131
          replace q131 := eq_true q131
          have p133 : 0 ≤ (x5_1 : Int) := of_decide_eq_true (by first | (with_reducible assumption) | assumption)
          have q133 : x5_1 < (l0.length : Int) := of_decide_eq_true (by first | (with_reducible assumption) | assumption)
          obtain ⟨ad133, e133, hx133_0, hx133_1, hx133_2, hx133_3⟩ := at_T36 HR0.out x5_1 p133 q133
          have hw133_3 := hx133_3
          have hw133_2 := hx133_2
          have hw133_1 := hx133_1
          have hw133_0 := hx133_0
          obtain rfl : ad131 = ad133 := (by injection e133)
          replace hx133_0 := cellA HB hx133_0
          replace hx133_1 := cellA HB hx133_1
          replace hx133_2 := cellA HB hx133_2
          replace hx133_3 := cellA HB hx133_3
          replace p133 := eq_true p133
          replace q133 := eq_true q133
          have p139 : 0 ≤ (x5_1 : Int) := of_decide_eq_true (by first | (with_reducible assumption) | assumption)
          have q139 : x5_1 < (l0.length : Int) := of_decide_eq_true (by first | (with_reducible assumption) | assumption)
          obtain ⟨ad139, e139, hx139_0, hx139_1, hx139_2, hx139_3⟩ := at_T36 HR0.out x5_1 p139 q139
          have hw139_3 := hx139_3
          have hw139_2 := hx139_2
          have hw139_1 := hx139_1
          have hw139_0 := hx139_0
          obtain rfl : ad131 = ad139 := (by injection e139)
          replace hx139_0 := cellA HB hx139_0
          replace hx139_1 := cellA HB hx139_1
          replace hx139_2 := cellA HB hx139_2
          replace hx139_3 := cellA HB hx139_3
          replace p139 := eq_true p139
          replace q139 := eq_true q139
          have p140 : 0 ≤ (x5_1 : Int) := of_decide_eq_true (by first | (with_reducible assumption) | assumption)
          have q140 : x5_1 < (l0.length : Int) := of_decide_eq_true (by first | (with_reducible assumption) | assumption)
          obtain ⟨ad140, e140, hx140_0, hx140_1, hx140_2, hx140_3⟩ := at_T36 HR0.out x5_1 p140 q140
          have hw140_3 := hx140_3
          have hw140_2 := hx140_2
          have hw140_1 := hx140_1
          have hw140_0 := hx140_0
          obtain rfl : ad131 = ad140 := (by injection e140)
          replace hx140_0 := cellA HB hx140_0
          replace hx140_1 := cellA HB hx140_1
          replace hx140_2 := cellA HB hx140_2
          replace hx140_3 := cellA HB hx140_3
          replace p140 := eq_true p140
          replace q140 := eq_true q140
          have p142 : 0 ≤ (x5_1 : Int) := of_decide_eq_true (by first | (with_reducible assumption) | assumption)
          have q142 : x5_1 < (l0.length : Int) := of_decide_eq_true (by first | (with_reducible assumption) | assumption)
          obtain ⟨ad142, e142, hx142_0, hx142_1, hx142_2, hx142_3⟩ := at_T36 HR0.out x5_1 p142 q142
          have hw142_3 := hx142_3
          have hw142_2 := hx142_2
          have hw142_1 := hx142_1
          have hw142_0 := hx142_0
          obtain rfl : ad131 = ad142 := (by injection e142)
          replace hx142_0 := cellA HB hx142_0
          replace hx142_1 := cellA HB hx142_1
          replace hx142_2 := cellA HB hx142_2
          replace hx142_3 := cellA HB hx142_3
          replace p142 := eq_true p142
          replace q142 := eq_true q142
          refine start_ (n := 43) (S := fun w' => w'.cell? ⟨gb130, 0, none⟩ = some (.int .i64 a1_0) ∧ w'.cell? ⟨gb130, 1, none⟩ = some (.int .i64 a1_1) ∧ w'.cell? (ad131.add ((x5_1).toNat * 4)) = some (.int .i64 ((rd_T36 l0 x5_1).f0.f0)) ∧ w'.cell? ⟨(ad131.add ((x5_1).toNat * 4)).block, (ad131.add ((x5_1).toNat * 4)).off + 1, none⟩ = some (.int .i64 ((rd_T36 l0 x5_1).f0.f1)) ∧ w'.cell? ⟨(ad131.add ((x5_1).toNat * 4)).block, (ad131.add ((x5_1).toNat * 4)).off + 2, none⟩ = some (.int .i64 ((rd_T36 l0 x5_1).f1.f0)) ∧ w'.cell? ⟨(ad131.add ((x5_1).toNat * 4)).block, (ad131.add ((x5_1).toNat * 4)).off + 3, none⟩ = some (.int .i64 ((rd_T36 l0 x5_1).f1.f1)) ∧ w'.cell? (ad131.add ((x5_1).toNat * 4)) = some (.int .i64 ((rd_T36 l0 x5_1).f0.f0)) ∧ w'.cell? ⟨(ad131.add ((x5_1).toNat * 4)).block, (ad131.add ((x5_1).toNat * 4)).off + 1, none⟩ = some (.int .i64 ((rd_T36 l0 x5_1).f0.f1)) ∧ w'.cell? ⟨(ad131.add ((x5_1).toNat * 4)).block, (ad131.add ((x5_1).toNat * 4)).off + 2, none⟩ = some (.int .i64 ((rd_T36 l0 x5_1).f1.f0)) ∧ w'.cell? ⟨(ad131.add ((x5_1).toNat * 4)).block, (ad131.add ((x5_1).toNat * 4)).off + 3, none⟩ = some (.int .i64 ((rd_T36 l0 x5_1).f1.f1)) ∧ w'.cell? (ad131.add ((x5_1).toNat * 4)) = some (.int .i64 ((rd_T36 l0 x5_1).f0.f0)) ∧ w'.cell? ⟨(ad131.add ((x5_1).toNat * 4)).block, (ad131.add ((x5_1).toNat * 4)).off + 1, none⟩ = some (.int .i64 ((rd_T36 l0 x5_1).f0.f1)) ∧ w'.cell? ⟨(ad131.add ((x5_1).toNat * 4)).block, (ad131.add ((x5_1).toNat * 4)).off + 2, none⟩ = some (.int .i64 ((rd_T36 l0 x5_1).f1.f0)) ∧ w'.cell? ⟨(ad131.add ((x5_1).toNat * 4)).block, (ad131.add ((x5_1).toNat * 4)).off + 3, none⟩ = some (.int .i64 ((rd_T36 l0 x5_1).f1.f1)) ∧ w'.cell? (ad131.add ((x5_1).toNat * 4)) = some (.int .i64 ((rd_T36 l0 x5_1).f0.f0)) ∧ w'.cell? ⟨(ad131.add ((x5_1).toNat * 4)).block, (ad131.add ((x5_1).toNat * 4)).off + 1, none⟩ = some (.int .i64 ((rd_T36 l0 x5_1).f0.f1)) ∧ w'.cell? ⟨(ad131.add ((x5_1).toNat * 4)).block, (ad131.add ((x5_1).toNat * 4)).off + 2, none⟩ = some (.int .i64 ((rd_T36 l0 x5_1).f1.f0)) ∧ w'.cell? ⟨(ad131.add ((x5_1).toNat * 4)).block, (ad131.add ((x5_1).toNat * 4)).off + 3, none⟩ = some (.int .i64 ((rd_T36 l0 x5_1).f1.f1)) ∧ w'.cell? (ad131.add ((x5_1).toNat * 4)) = some (.int .i64 ((rd_T36 l0 x5_1).f0.f0)) ∧ w'.cell? ⟨(ad131.add ((x5_1).toNat * 4)).block, (ad131.add ((x5_1).toNat * 4)).off + 1, none⟩ = some (.int .i64 ((rd_T36 l0 x5_1).f0.f1)) ∧ w'.cell? ⟨(ad131.add ((x5_1).toNat * 4)).block, (ad131.add ((x5_1).toNat * 4)).off + 2, none⟩ = some (.int .i64 ((rd_T36 l0 x5_1).f1.f0)) ∧ w'.cell? ⟨(ad131.add ((x5_1).toNat * 4)).block, (ad131.add ((x5_1).toNat * 4)).off + 3, none⟩ = some (.int .i64 ((rd_T36 l0 x5_1).f1.f1))) (ds := []) (bl 0 43) (by kernel_rfl) rfl rfl ⟨(blk_cell BK130.out 0).trans rfl, (blk_cell BK130.out 1).trans rfl, (cellA HB hw131_0), (cellA HB hw131_1), (cellA HB hw131_2), (cellA HB hw131_3), (cellA HB hw133_0), (cellA HB hw133_1), (cellA HB hw133_2), (cellA HB hw133_3), (cellA HB hw139_0), (cellA HB hw139_1), (cellA HB hw139_2), (cellA HB hw139_3), (cellA HB hw140_0), (cellA HB hw140_1), (cellA HB hw140_2), (cellA HB hw140_3), (cellA HB hw142_0), (cellA HB hw142_1), (cellA HB hw142_2), (cellA HB hw142_3)⟩ (fun hHeld => ?_); refine with_tabW quernref13_Refuse.tab4 quernref13_Refuse.bits4 (fun HT_ HW_ => ?_)
          generalize wr.drew = w37 at BK130 HB hx131_0 hx131_1 hx131_2 hx131_3 hx133_0 hx133_1 hx133_2 hx133_3 hx139_0 hx139_1 hx139_2 hx139_3 hx140_0 hx140_1 hx140_2 hx140_3 hx142_0 hx142_1 hx142_2 hx142_3 hHeld ⊢
          refine pure_ (i := 0) (N := some 14) (v := ?_) (a' := ?_) (bl 1 43) rfl rfl (any_of HT_.out (by kernel_rfl)) (fun _ _ _ h => h) (Or.inl ⟨by rfl, ?_⟩) ?_ ?_
          rotate_left
          ·intro w'
           go_simp
           with_reducible rfl
          rotate_left
          ·simp only [Act.put, List.setIfInBounds_toArray, List.set_cons_zero, List.set_cons_succ, i64_w, i32_w]
           rfl
          refine pure_ (i := 1) (N := some 15) (v := ?_) (a' := ?_) (bl 2 43) rfl rfl (any_of HT_.out (by kernel_rfl)) (fun _ _ _ h => h) (Or.inl ⟨by rfl, ?_⟩) ?_ ?_
          rotate_left
          ·intro w'
           go_simp
           with_reducible rfl
          rotate_left
          ·simp only [Act.put, List.setIfInBounds_toArray, List.set_cons_zero, List.set_cons_succ, i64_w, i32_w]
           rfl
          refine pure_ (i := 2) (N := some 16) (v := ?_) (a' := ?_) (bl 3 43) rfl rfl (any_of HT_.out (by kernel_rfl)) (fun _ _ _ h => h) (Or.inl ⟨by rfl, ?_⟩) ?_ ?_
          rotate_left
          ·intro w'
           go_simp
           with_reducible rfl
          rotate_left
          ·simp only [Act.put, List.setIfInBounds_toArray, List.set_cons_zero, List.set_cons_succ, i64_w, i32_w]
           rfl
          refine pure_ (i := 3) (N := some 17) (v := ?_) (a' := ?_) (bl 4 43) rfl rfl (any_of HT_.out (by kernel_rfl)) (fun _ _ _ h => h) (Or.inl ⟨by rfl, ?_⟩) ?_ ?_
          rotate_left
          ·intro w'
           go_simp
           with_reducible rfl
          rotate_left
          ·simp only [Act.put, List.setIfInBounds_toArray, List.set_cons_zero, List.set_cons_succ, i64_w, i32_w]
           rfl
          refine take_ (i := 4) (N := some 18) (v := ?_) (a' := ?_) (bl 5 43) rfl rfl (take_ofW HT_.out HW_.out (by kernel_rfl)) (fun _ _ _ h => h) (Or.inl ⟨by rfl, ?_⟩) hHeld ?_ ?_
          rotate_left
          ·rintro w' ⟨s0, s1, s2, s3, s4, s5, s6, s7, s8, s9, s10, s11, s12, s13, s14, s15, s16, s17, s18, s19, s20, s21⟩
           go_simp
           with_reducible rfl
          rotate_left
          ·simp only [Act.put, List.setIfInBounds_toArray, List.set_cons_zero, List.set_cons_succ, i64_w, i32_w]
           rfl
          refine one_ (i := 5) (N := some 19) (bl 6 43) rfl rfl (one_of HT_.out (by kernel_rfl)) (by decide) (fun K hK => ?_)
          refine goes_ Try.func35 (by kernel_rfl) rfl #[.agg #[.int .i64 ((rd_T36 l0 x5_1).f0.f0), .int .i64 ((rd_T36 l0 x5_1).f0.f1)]] (by rfl) rfl rfl (by (try simp only [List.map_toArray, List.map_cons, List.map_nil]); first | done | rfl | (simp only [List.length_drop, List.length_take]; rfl)) ?_
          with_reducible refine (quernref13_Place.calls ((rd_T36 l0 x5_1).f0.f0) ((rd_T36 l0 x5_1).f0.f1) true _ A6.out).mono ?_
          rintro e w38 ⟨rfl, hb⟩
          refine ⟨_, rfl, ?_⟩
          have n0_ := Aside0.mk (blk_below (g := gb130) (o := .cells #[.int .i64 a1_0, .int .i64 a1_1] 24 (0, 0)) (by (with_reducible repeat (first | refine blk_drewN ?_ _ | refine blk_drew ?_ | refine blk_alloc ?_ _)); exact BK130.out) hb)
          have n1_ := Aside0.mk (below_step (by repeat (first | (with_reducible first | exact HB.out | apply below_alloc | apply pw_below_drewN | apply below_drew1 | refine below_set ?_ GE130.out) | exact HB.out)) hb)
          clear BK130
          clear HB
          have BK130 := n0_
          have HB := n1_
          clear n0_ n1_
          (try clear hb)
          (try clear hb2)
          (try clear hk)
          (try clear hi)
          refine hK.out _ _ ⟨(blk_cell BK130.out 0).trans rfl, (blk_cell BK130.out 1).trans rfl, (cellA HB hw131_0), (cellA HB hw131_1), (cellA HB hw131_2), (cellA HB hw131_3), (cellA HB hw133_0), (cellA HB hw133_1), (cellA HB hw133_2), (cellA HB hw133_3), (cellA HB hw139_0), (cellA HB hw139_1), (cellA HB hw139_2), (cellA HB hw139_3), (cellA HB hw140_0), (cellA HB hw140_1), (cellA HB hw140_2), (cellA HB hw140_3), (cellA HB hw142_0), (cellA HB hw142_1), (cellA HB hw142_2), (cellA HB hw142_3)⟩ (fun hHeld => ?_)
          clear hK K
          refine norm_ (a' := ?_) ?_ ?_
          rotate_left
          ·show Act.put _ (some 19) _ = _
           simp only [Act.put, List.setIfInBounds_toArray, List.set_cons_zero, List.set_cons_succ, i64_w, i32_w]
           rfl
          refine pure_ (i := 6) (N := some 20) (v := ?_) (a' := ?_) (bl 7 43) rfl rfl (any_of HT_.out (by kernel_rfl)) (fun _ _ _ h => h) (Or.inl ⟨by rfl, ?_⟩) ?_ ?_
          rotate_left
          ·intro w'
           go_simp
           with_reducible rfl
          rotate_left
          ·simp only [Act.put, List.setIfInBounds_toArray, List.set_cons_zero, List.set_cons_succ, i64_w, i32_w]
           rfl
          refine pure_ (i := 7) (N := some 21) (v := ?_) (a' := ?_) (bl 8 43) rfl rfl (any_of HT_.out (by kernel_rfl)) (fun _ _ _ h => h) (Or.inl ⟨by rfl, ?_⟩) ?_ ?_
          rotate_left
          ·intro w'
           go_simp
           with_reducible rfl
          rotate_left
          ·simp only [Act.put, List.setIfInBounds_toArray, List.set_cons_zero, List.set_cons_succ, i64_w, i32_w]
           rfl
          refine pure_ (i := 8) (N := some 22) (v := ?_) (a' := ?_) (bl 9 43) rfl rfl (any_of HT_.out (by kernel_rfl)) (fun _ _ _ h => h) (Or.inl ⟨by rfl, ?_⟩) ?_ ?_
          rotate_left
          ·intro w'
           go_simp
           with_reducible rfl
          rotate_left
          ·simp only [Act.put, List.setIfInBounds_toArray, List.set_cons_zero, List.set_cons_succ, i64_w, i32_w]
           rfl
          refine pure_ (i := 9) (N := some 23) (v := ?_) (a' := ?_) (bl 10 43) rfl rfl (any_of HT_.out (by kernel_rfl)) (fun _ _ _ h => h) (Or.inl ⟨by rfl, ?_⟩) ?_ ?_
          rotate_left
          ·intro w'
           go_simp
           with_reducible rfl
          rotate_left
          ·simp only [Act.put, List.setIfInBounds_toArray, List.set_cons_zero, List.set_cons_succ, i64_w, i32_w]
           rfl
          refine pure_ (i := 10) (N := some 24) (v := ?_) (a' := ?_) (bl 11 43) rfl rfl (any_of HT_.out (by kernel_rfl)) (fun _ _ _ h => h) (Or.inl ⟨by rfl, ?_⟩) ?_ ?_
          rotate_left
          ·intro w'
           go_simp
           with_reducible rfl
          rotate_left
          ·simp only [Act.put, List.setIfInBounds_toArray, List.set_cons_zero, List.set_cons_succ, i64_w, i32_w]
           rfl
          refine pure_ (i := 11) (N := some 25) (v := ?_) (a' := ?_) (bl 12 43) rfl rfl (any_of HT_.out (by kernel_rfl)) (fun _ _ _ h => h) (Or.inl ⟨by rfl, ?_⟩) ?_ ?_
          rotate_left
          ·intro w'
           go_simp
           with_reducible rfl
          rotate_left
          ·simp only [Act.put, List.setIfInBounds_toArray, List.set_cons_zero, List.set_cons_succ, i64_w, i32_w]
           rfl
          refine take_ (i := 12) (N := some 26) (v := ?_) (a' := ?_) (bl 13 43) rfl rfl (take_ofW HT_.out HW_.out (by kernel_rfl)) (fun _ _ _ h => h) (Or.inl ⟨by rfl, ?_⟩) hHeld ?_ ?_
          rotate_left
          ·rintro w' ⟨s0, s1, s2, s3, s4, s5, s6, s7, s8, s9, s10, s11, s12, s13, s14, s15, s16, s17, s18, s19, s20, s21⟩
           go_simp
           with_reducible rfl
          rotate_left
          ·simp only [Act.put, List.setIfInBounds_toArray, List.set_cons_zero, List.set_cons_succ, i64_w, i32_w]
           rfl
          refine one_ (i := 13) (N := some 27) (bl 14 43) rfl rfl (one_of HT_.out (by kernel_rfl)) (by decide) (fun K hK => ?_)
          refine goes_ Try.func35 (by kernel_rfl) rfl #[.agg #[.int .i64 ((rd_T36 l0 x5_1).f1.f0), .int .i64 ((rd_T36 l0 x5_1).f1.f1)]] (by rfl) rfl rfl (by (try simp only [List.map_toArray, List.map_cons, List.map_nil]); first | done | rfl | (simp only [List.length_drop, List.length_take]; rfl)) ?_
          with_reducible refine (quernref13_Place.calls ((rd_T36 l0 x5_1).f1.f0) ((rd_T36 l0 x5_1).f1.f1) false _ A8.out).mono ?_
          rintro e w39 ⟨rfl, hb⟩
          refine ⟨_, rfl, ?_⟩
          have n0_ := Aside0.mk (blk_below (g := gb130) (o := .cells #[.int .i64 a1_0, .int .i64 a1_1] 24 (0, 0)) (by (with_reducible repeat (first | refine blk_drewN ?_ _ | refine blk_drew ?_ | refine blk_alloc ?_ _)); exact BK130.out) hb)
          have n1_ := Aside0.mk (below_step (by repeat (first | (with_reducible first | exact HB.out | apply below_alloc | apply pw_below_drewN | apply below_drew1 | refine below_set ?_ GE130.out) | exact HB.out)) hb)
          clear BK130
          clear HB
          have BK130 := n0_
          have HB := n1_
          clear n0_ n1_
          (try clear hb)
          (try clear hb2)
          (try clear hk)
          (try clear hi)
          refine hK.out _ _ ⟨(blk_cell BK130.out 0).trans rfl, (blk_cell BK130.out 1).trans rfl, (cellA HB hw131_0), (cellA HB hw131_1), (cellA HB hw131_2), (cellA HB hw131_3), (cellA HB hw133_0), (cellA HB hw133_1), (cellA HB hw133_2), (cellA HB hw133_3), (cellA HB hw139_0), (cellA HB hw139_1), (cellA HB hw139_2), (cellA HB hw139_3), (cellA HB hw140_0), (cellA HB hw140_1), (cellA HB hw140_2), (cellA HB hw140_3), (cellA HB hw142_0), (cellA HB hw142_1), (cellA HB hw142_2), (cellA HB hw142_3)⟩ (fun hHeld => ?_)
          clear hK K
          refine norm_ (a' := ?_) ?_ ?_
          rotate_left
          ·show Act.put _ (some 27) _ = _
           simp only [Act.put, List.setIfInBounds_toArray, List.set_cons_zero, List.set_cons_succ, i64_w, i32_w]
           rfl
          refine pure_ (i := 14) (N := some 28) (v := ?_) (a' := ?_) (bl 15 43) rfl rfl (any_of HT_.out (by kernel_rfl)) (fun _ _ _ h => h) (Or.inl ⟨by rfl, ?_⟩) ?_ ?_
          rotate_left
          ·intro w'
           go_simp
           with_reducible rfl
          rotate_left
          ·simp only [Act.put, List.setIfInBounds_toArray, List.set_cons_zero, List.set_cons_succ, i64_w, i32_w]
           rfl
          refine pure_ (i := 15) (N := some 29) (v := ?_) (a' := ?_) (bl 16 43) rfl rfl (any_of HT_.out (by kernel_rfl)) (fun _ _ _ h => h) (Or.inl ⟨by rfl, ?_⟩) ?_ ?_
          rotate_left
          ·intro w'
           go_simp
           with_reducible rfl
          rotate_left
          ·simp only [Act.put, List.setIfInBounds_toArray, List.set_cons_zero, List.set_cons_succ, i64_w, i32_w]
           rfl
          refine pure_ (i := 16) (N := some 30) (v := ?_) (a' := ?_) (bl 17 43) rfl rfl (any_of HT_.out (by kernel_rfl)) (fun _ _ _ h => h) (Or.inl ⟨by rfl, ?_⟩) ?_ ?_
          rotate_left
          ·intro w'
           go_simp
           with_reducible rfl
          rotate_left
          ·simp only [Act.put, List.setIfInBounds_toArray, List.set_cons_zero, List.set_cons_succ, i64_w, i32_w]
           rfl
          refine pure_ (i := 17) (N := some 31) (v := ?_) (a' := ?_) (bl 18 43) rfl rfl (any_of HT_.out (by kernel_rfl)) (fun _ _ _ h => h) (Or.inl ⟨by rfl, ?_⟩) ?_ ?_
          rotate_left
          ·intro w'
           go_simp
           with_reducible rfl
          rotate_left
          ·simp only [Act.put, List.setIfInBounds_toArray, List.set_cons_zero, List.set_cons_succ, i64_w, i32_w]
           rfl
          refine pure_ (i := 18) (N := some 32) (v := ?_) (a' := ?_) (bl 19 43) rfl rfl (any_of HT_.out (by kernel_rfl)) (fun _ _ _ h => h) (Or.inl ⟨by rfl, ?_⟩) ?_ ?_
          rotate_left
          ·intro w'
           go_simp
           with_reducible rfl
          rotate_left
          ·simp only [Act.put, List.setIfInBounds_toArray, List.set_cons_zero, List.set_cons_succ, i64_w, i32_w]
           rfl
          refine pure_ (i := 19) (N := some 33) (v := ?_) (a' := ?_) (bl 20 43) rfl rfl (any_of HT_.out (by kernel_rfl)) (fun _ _ _ h => h) (Or.inl ⟨by rfl, ?_⟩) ?_ ?_
          rotate_left
          ·intro w'
           go_simp
           with_reducible rfl
          rotate_left
          ·simp only [Act.put, List.setIfInBounds_toArray, List.set_cons_zero, List.set_cons_succ, i64_w, i32_w]
           rfl
          refine pure_ (i := 20) (N := some 34) (v := ?_) (a' := ?_) (bl 21 43) rfl rfl (any_of HT_.out (by kernel_rfl)) (fun _ _ _ h => h) (Or.inl ⟨by rfl, ?_⟩) ?_ ?_
          rotate_left
          ·intro w'
           go_simp
           with_reducible rfl
          rotate_left
          ·simp only [Act.put, List.setIfInBounds_toArray, List.set_cons_zero, List.set_cons_succ, i64_w, i32_w]
           rfl
          refine take_ (i := 21) (N := some 35) (v := ?_) (a' := ?_) (bl 22 43) rfl rfl (take_ofW HT_.out HW_.out (by kernel_rfl)) (fun _ _ _ h => h) (Or.inl ⟨by rfl, ?_⟩) hHeld ?_ ?_
          rotate_left
          ·rintro w' ⟨s0, s1, s2, s3, s4, s5, s6, s7, s8, s9, s10, s11, s12, s13, s14, s15, s16, s17, s18, s19, s20, s21⟩
           go_simp
           with_reducible rfl
          rotate_left
          ·simp only [Act.put, List.setIfInBounds_toArray, List.set_cons_zero, List.set_cons_succ, i64_w, i32_w]
           rfl
          refine pure_ (i := 22) (N := some 36) (v := ?_) (a' := ?_) (bl 23 43) rfl rfl (any_of HT_.out (by kernel_rfl)) (fun _ _ _ h => h) (Or.inl ⟨by rfl, ?_⟩) ?_ ?_
          rotate_left
          ·intro w'
           go_simp
           with_reducible rfl
          rotate_left
          ·simp only [Act.put, List.setIfInBounds_toArray, List.set_cons_zero, List.set_cons_succ, i64_w, i32_w]
           rfl
          refine pure_ (i := 23) (N := some 37) (v := ?_) (a' := ?_) (bl 24 43) rfl rfl (any_of HT_.out (by kernel_rfl)) (fun _ _ _ h => h) (Or.inl ⟨by rfl, ?_⟩) ?_ ?_
          rotate_left
          ·intro w'
           go_simp
           with_reducible rfl
          rotate_left
          ·simp only [Act.put, List.setIfInBounds_toArray, List.set_cons_zero, List.set_cons_succ, i64_w, i32_w]
           rfl
          refine pure_ (i := 24) (N := some 38) (v := ?_) (a' := ?_) (bl 25 43) rfl rfl (any_of HT_.out (by kernel_rfl)) (fun _ _ _ h => h) (Or.inl ⟨by rfl, ?_⟩) ?_ ?_
          rotate_left
          ·intro w'
           go_simp
           with_reducible rfl
          rotate_left
          ·simp only [Act.put, List.setIfInBounds_toArray, List.set_cons_zero, List.set_cons_succ, i64_w, i32_w]
           rfl
          refine pure_ (i := 25) (N := some 39) (v := ?_) (a' := ?_) (bl 26 43) rfl rfl (any_of HT_.out (by kernel_rfl)) (fun _ _ _ h => h) (Or.inl ⟨by rfl, ?_⟩) ?_ ?_
          rotate_left
          ·intro w'
           go_simp
           with_reducible rfl
          rotate_left
          ·simp only [Act.put, List.setIfInBounds_toArray, List.set_cons_zero, List.set_cons_succ, i64_w, i32_w]
           rfl
          refine pure_ (i := 26) (N := some 40) (v := ?_) (a' := ?_) (bl 27 43) rfl rfl (any_of HT_.out (by kernel_rfl)) (fun _ _ _ h => h) (Or.inl ⟨by rfl, ?_⟩) ?_ ?_
          rotate_left
          ·intro w'
           go_simp
           with_reducible rfl
          rotate_left
          ·simp only [Act.put, List.setIfInBounds_toArray, List.set_cons_zero, List.set_cons_succ, i64_w, i32_w]
           rfl
          refine pure_ (i := 27) (N := some 41) (v := ?_) (a' := ?_) (bl 28 43) rfl rfl (any_of HT_.out (by kernel_rfl)) (fun _ _ _ h => h) (Or.inl ⟨by rfl, ?_⟩) ?_ ?_
          rotate_left
          ·intro w'
           go_simp
           with_reducible rfl
          rotate_left
          ·simp only [Act.put, List.setIfInBounds_toArray, List.set_cons_zero, List.set_cons_succ, i64_w, i32_w]
           rfl
          refine pure_ (i := 28) (N := some 42) (v := ?_) (a' := ?_) (bl 29 43) rfl rfl (any_of HT_.out (by kernel_rfl)) (fun _ _ _ h => h) (Or.inl ⟨by rfl, ?_⟩) ?_ ?_
          rotate_left
          ·intro w'
           go_simp
           with_reducible rfl
          rotate_left
          ·simp only [Act.put, List.setIfInBounds_toArray, List.set_cons_zero, List.set_cons_succ, i64_w, i32_w]
           rfl
          refine pure_ (i := 29) (N := some 43) (v := ?_) (a' := ?_) (bl 30 43) rfl rfl (any_of HT_.out (by kernel_rfl)) (fun _ _ _ h => h) (Or.inl ⟨by rfl, ?_⟩) ?_ ?_
          rotate_left
          ·intro w'
           go_simp
           with_reducible rfl
          rotate_left
          ·simp only [Act.put, List.setIfInBounds_toArray, List.set_cons_zero, List.set_cons_succ, i64_w, i32_w]
           rfl
          refine take_ (i := 30) (N := some 44) (v := ?_) (a' := ?_) (bl 31 43) rfl rfl (take_ofW HT_.out HW_.out (by kernel_rfl)) (fun _ _ _ h => h) (Or.inl ⟨by rfl, ?_⟩) hHeld ?_ ?_
          rotate_left
          ·rintro w' ⟨s0, s1, s2, s3, s4, s5, s6, s7, s8, s9, s10, s11, s12, s13, s14, s15, s16, s17, s18, s19, s20, s21⟩
           go_simp
           with_reducible rfl
          rotate_left
          ·simp only [Act.put, List.setIfInBounds_toArray, List.set_cons_zero, List.set_cons_succ, i64_w, i32_w]
           rfl
          refine take_ (i := 31) (N := some 45) (v := ?_) (a' := ?_) (bl 32 43) rfl rfl (take_ofW HT_.out HW_.out (by kernel_rfl)) (fun _ _ _ h => h) (Or.inl ⟨by rfl, ?_⟩) hHeld ?_ ?_
          rotate_left
          ·rintro w' ⟨s0, s1, s2, s3, s4, s5, s6, s7, s8, s9, s10, s11, s12, s13, s14, s15, s16, s17, s18, s19, s20, s21⟩
           go_simp
           with_reducible rfl
          rotate_left
          ·simp only [Act.put, List.setIfInBounds_toArray, List.set_cons_zero, List.set_cons_succ, i64_w, i32_w]
           rfl
          refine one_ (i := 32) (N := some 46) (bl 33 43) rfl rfl (one_of HT_.out (by kernel_rfl)) (by decide) (fun K hK => ?_)
          refine goes_ Try.func27 (by kernel_rfl) rfl #[.agg #[.int .i64 ((rd_T36 l0 x5_1).f0.f0), .int .i64 ((rd_T36 l0 x5_1).f0.f1)], .agg #[.int .i64 a1_0, .int .i64 a1_1]] (by rfl) rfl rfl (by (try simp only [List.map_toArray, List.map_cons, List.map_nil]); first | done | rfl | (simp only [List.length_drop, List.length_take]; rfl)) ?_
          with_reducible refine (quernref13_Same.calls ((rd_T36 l0 x5_1).f0.f0) ((rd_T36 l0 x5_1).f0.f1) a1_0 a1_1 false _ A29.out).mono ?_
          rintro e w40 ⟨rfl, hb⟩
          refine ⟨_, rfl, ?_⟩
          have n0_ := Aside0.mk (blk_below (g := gb130) (o := .cells #[.int .i64 a1_0, .int .i64 a1_1] 24 (0, 0)) (by (with_reducible repeat (first | refine blk_drewN ?_ _ | refine blk_drew ?_ | refine blk_alloc ?_ _)); exact BK130.out) hb)
          have n1_ := Aside0.mk (below_step (by repeat (first | (with_reducible first | exact HB.out | apply below_alloc | apply pw_below_drewN | apply below_drew1 | refine below_set ?_ GE130.out) | exact HB.out)) hb)
          clear BK130
          clear HB
          have BK130 := n0_
          have HB := n1_
          clear n0_ n1_
          (try clear hb)
          (try clear hb2)
          (try clear hk)
          (try clear hi)
          refine hK.out _ _ ⟨(blk_cell BK130.out 0).trans rfl, (blk_cell BK130.out 1).trans rfl, (cellA HB hw131_0), (cellA HB hw131_1), (cellA HB hw131_2), (cellA HB hw131_3), (cellA HB hw133_0), (cellA HB hw133_1), (cellA HB hw133_2), (cellA HB hw133_3), (cellA HB hw139_0), (cellA HB hw139_1), (cellA HB hw139_2), (cellA HB hw139_3), (cellA HB hw140_0), (cellA HB hw140_1), (cellA HB hw140_2), (cellA HB hw140_3), (cellA HB hw142_0), (cellA HB hw142_1), (cellA HB hw142_2), (cellA HB hw142_3)⟩ (fun hHeld => ?_)
          clear hK K
          refine norm_ (a' := ?_) ?_ ?_
          rotate_left
          ·show Act.put _ (some 46) _ = _
           simp only [Act.put, List.setIfInBounds_toArray, List.set_cons_zero, List.set_cons_succ, i64_w, i32_w]
           rfl
          refine pure_ (i := 33) (N := some 47) (v := ?_) (a' := ?_) (bl 34 43) rfl rfl (any_of HT_.out (by kernel_rfl)) (fun _ _ _ h => h) (Or.inl ⟨by rfl, ?_⟩) ?_ ?_
          rotate_left
          ·intro w'
           go_simp
           with_reducible rfl
          rotate_left
          ·simp only [Act.put, List.setIfInBounds_toArray, List.set_cons_zero, List.set_cons_succ, i64_w, i32_w]
           rfl
          refine pure_ (i := 34) (N := some 48) (v := ?_) (a' := ?_) (bl 35 43) rfl rfl (any_of HT_.out (by kernel_rfl)) (fun _ _ _ h => h) (Or.inl ⟨by rfl, ?_⟩) ?_ ?_
          rotate_left
          ·intro w'
           go_simp
           with_reducible rfl
          rotate_left
          ·simp only [Act.put, List.setIfInBounds_toArray, List.set_cons_zero, List.set_cons_succ, i64_w, i32_w]
           rfl
          refine pure_ (i := 35) (N := some 49) (v := ?_) (a' := ?_) (bl 36 43) rfl rfl (any_of HT_.out (by kernel_rfl)) (fun _ _ _ h => h) (Or.inl ⟨by rfl, ?_⟩) ?_ ?_
          rotate_left
          ·intro w'
           go_simp
           with_reducible rfl
          rotate_left
          ·simp only [Act.put, List.setIfInBounds_toArray, List.set_cons_zero, List.set_cons_succ, i64_w, i32_w]
           rfl
          refine pure_ (i := 36) (N := some 50) (v := ?_) (a' := ?_) (bl 37 43) rfl rfl (any_of HT_.out (by kernel_rfl)) (fun _ _ _ h => h) (Or.inl ⟨by rfl, ?_⟩) ?_ ?_
          rotate_left
          ·intro w'
           go_simp
           with_reducible rfl
          rotate_left
          ·simp only [Act.put, List.setIfInBounds_toArray, List.set_cons_zero, List.set_cons_succ, i64_w, i32_w]
           rfl
          refine pure_ (i := 37) (N := some 51) (v := ?_) (a' := ?_) (bl 38 43) rfl rfl (any_of HT_.out (by kernel_rfl)) (fun _ _ _ h => h) (Or.inl ⟨by rfl, ?_⟩) ?_ ?_
          rotate_left
          ·intro w'
           go_simp
           with_reducible rfl
          rotate_left
          ·simp only [Act.put, List.setIfInBounds_toArray, List.set_cons_zero, List.set_cons_succ, i64_w, i32_w]
           rfl
          refine pure_ (i := 38) (N := some 52) (v := ?_) (a' := ?_) (bl 39 43) rfl rfl (any_of HT_.out (by kernel_rfl)) (fun _ _ _ h => h) (Or.inl ⟨by rfl, ?_⟩) ?_ ?_
          rotate_left
          ·intro w'
           go_simp
           with_reducible rfl
          rotate_left
          ·simp only [Act.put, List.setIfInBounds_toArray, List.set_cons_zero, List.set_cons_succ, i64_w, i32_w]
           rfl
          refine take_ (i := 39) (N := some 53) (v := ?_) (a' := ?_) (bl 40 43) rfl rfl (take_ofW HT_.out HW_.out (by kernel_rfl)) (fun _ _ _ h => h) (Or.inl ⟨by rfl, ?_⟩) hHeld ?_ ?_
          rotate_left
          ·rintro w' ⟨s0, s1, s2, s3, s4, s5, s6, s7, s8, s9, s10, s11, s12, s13, s14, s15, s16, s17, s18, s19, s20, s21⟩
           go_simp
           with_reducible rfl
          rotate_left
          ·simp only [Act.put, List.setIfInBounds_toArray, List.set_cons_zero, List.set_cons_succ, i64_w, i32_w]
           rfl
          refine take_ (i := 40) (N := some 54) (v := ?_) (a' := ?_) (bl 41 43) rfl rfl (take_ofW HT_.out HW_.out (by kernel_rfl)) (fun _ _ _ h => h) (Or.inl ⟨by rfl, ?_⟩) hHeld ?_ ?_
          rotate_left
          ·rintro w' ⟨s0, s1, s2, s3, s4, s5, s6, s7, s8, s9, s10, s11, s12, s13, s14, s15, s16, s17, s18, s19, s20, s21⟩
           go_simp
           with_reducible rfl
          rotate_left
          ·simp only [Act.put, List.setIfInBounds_toArray, List.set_cons_zero, List.set_cons_succ, i64_w, i32_w]
           rfl
          refine one_ (i := 41) (N := some 55) (bl 42 43) rfl rfl (one_of HT_.out (by kernel_rfl)) (by decide) (fun K hK => ?_)
          refine goes_ Try.func27 (by kernel_rfl) rfl #[.agg #[.int .i64 ((rd_T36 l0 x5_1).f1.f0), .int .i64 ((rd_T36 l0 x5_1).f1.f1)], .agg #[.int .i64 a1_0, .int .i64 a1_1]] (by rfl) rfl rfl (by (try simp only [List.map_toArray, List.map_cons, List.map_nil]); first | done | rfl | (simp only [List.length_drop, List.length_take]; rfl)) ?_
          with_reducible refine (quernref13_Same.calls ((rd_T36 l0 x5_1).f1.f0) ((rd_T36 l0 x5_1).f1.f1) a1_0 a1_1 true _ A35.out).mono ?_
          rintro e w41 ⟨rfl, hb⟩
          refine ⟨_, rfl, ?_⟩
          have n0_ := Aside0.mk (blk_below (g := gb130) (o := .cells #[.int .i64 a1_0, .int .i64 a1_1] 24 (0, 0)) (by (with_reducible repeat (first | refine blk_drewN ?_ _ | refine blk_drew ?_ | refine blk_alloc ?_ _)); exact BK130.out) hb)
          have n1_ := Aside0.mk (below_step (by repeat (first | (with_reducible first | exact HB.out | apply below_alloc | apply pw_below_drewN | apply below_drew1 | refine below_set ?_ GE130.out) | exact HB.out)) hb)
          clear BK130
          clear HB
          have BK130 := n0_
          have HB := n1_
          clear n0_ n1_
          (try clear hb)
          (try clear hb2)
          (try clear hk)
          (try clear hi)
          refine hK.out _ _ ⟨(blk_cell BK130.out 0).trans rfl, (blk_cell BK130.out 1).trans rfl, (cellA HB hw131_0), (cellA HB hw131_1), (cellA HB hw131_2), (cellA HB hw131_3), (cellA HB hw133_0), (cellA HB hw133_1), (cellA HB hw133_2), (cellA HB hw133_3), (cellA HB hw139_0), (cellA HB hw139_1), (cellA HB hw139_2), (cellA HB hw139_3), (cellA HB hw140_0), (cellA HB hw140_1), (cellA HB hw140_2), (cellA HB hw140_3), (cellA HB hw142_0), (cellA HB hw142_1), (cellA HB hw142_2), (cellA HB hw142_3)⟩ (fun hHeld => ?_)
          clear hK K
          refine norm_ (a' := ?_) ?_ ?_
          rotate_left
          ·show Act.put _ (some 55) _ = _
           simp only [Act.put, List.setIfInBounds_toArray, List.set_cons_zero, List.set_cons_succ, i64_w, i32_w]
           rfl
          refine pure_ (i := 42) (N := some 56) (v := ?_) (a' := ?_) (bl 43 43) rfl rfl (any_of HT_.out (by kernel_rfl)) (fun _ _ _ h => h) (Or.inl ⟨by rfl, ?_⟩) ?_ ?_
          rotate_left
          ·intro w'
           go_simp
           with_reducible rfl
          rotate_left
          ·simp only [Act.put, List.setIfInBounds_toArray, List.set_cons_zero, List.set_cons_succ, i64_w, i32_w]
           rfl
          refine done_ (done_of HT_.out (by kernel_rfl)) ?_
          try go_wp2
          go_ret
          exact ⟨by first | rfl | (simp [errW_none, errW_some] <;> rfl) | (simp [*, errW_none, errW_some] <;> rfl), by repeat (first | (with_reducible first | exact HB.out | apply below_alloc | apply pw_below_drewN | apply below_drew1 | refine below_set ?_ GE130.out) | exact HB.out)⟩
         ·replace c36 := Bool.eq_false_iff.mpr c36
          subst c36
          have H1 : (quernref13_Refuse.l0 k1 l0 (wrap64 (x5_1 + 1)) a1_0 a1_1) = some r := by rw [if_neg (show ¬ (false = true) by decide)] at H; exact H
          clear H
          have H := H1
          clear H1
          have H' := Aside0.mk H
          clear H
          try go_wp2
          have n0_ := Aside0.mk (blk_drew BK130.out)
          have n1_ := Aside0.mk (below_drew1 HB.out)
          clear BK130
          clear HB
          have BK130 := n0_
          have HB := n1_
          clear n0_ n1_
          have p131 : 0 ≤ (x5_1 : Int) := of_decide_eq_true (by first | (with_reducible assumption) | assumption)
          have q131 : x5_1 < (l0.length : Int) := of_decide_eq_true (by first | (with_reducible assumption) | assumption)
          obtain ⟨ad131, e131, hx131_0, hx131_1, hx131_2, hx131_3⟩ := at_T36 HR0.out x5_1 p131 q131
          have hw131_3 := hx131_3
          have hw131_2 := hx131_2
          have hw131_1 := hx131_1
          have hw131_0 := hx131_0
          cases e131
          replace hx131_0 := cellA HB hx131_0
          replace hx131_1 := cellA HB hx131_1
          replace hx131_2 := cellA HB hx131_2
          replace hx131_3 := cellA HB hx131_3
          replace p131 := eq_true p131
          replace q131 := eq_true q131
          have p133 : 0 ≤ (x5_1 : Int) := of_decide_eq_true (by first | (with_reducible assumption) | assumption)
          have q133 : x5_1 < (l0.length : Int) := of_decide_eq_true (by first | (with_reducible assumption) | assumption)
          obtain ⟨ad133, e133, hx133_0, hx133_1, hx133_2, hx133_3⟩ := at_T36 HR0.out x5_1 p133 q133
          have hw133_3 := hx133_3
          have hw133_2 := hx133_2
          have hw133_1 := hx133_1
          have hw133_0 := hx133_0
          obtain rfl : ad131 = ad133 := (by injection e133)
          replace hx133_0 := cellA HB hx133_0
          replace hx133_1 := cellA HB hx133_1
          replace hx133_2 := cellA HB hx133_2
          replace hx133_3 := cellA HB hx133_3
          replace p133 := eq_true p133
          replace q133 := eq_true q133
          have p139 : 0 ≤ (x5_1 : Int) := of_decide_eq_true (by first | (with_reducible assumption) | assumption)
          have q139 : x5_1 < (l0.length : Int) := of_decide_eq_true (by first | (with_reducible assumption) | assumption)
          obtain ⟨ad139, e139, hx139_0, hx139_1, hx139_2, hx139_3⟩ := at_T36 HR0.out x5_1 p139 q139
          have hw139_3 := hx139_3
          have hw139_2 := hx139_2
          have hw139_1 := hx139_1
          have hw139_0 := hx139_0
          obtain rfl : ad131 = ad139 := (by injection e139)
          replace hx139_0 := cellA HB hx139_0
          replace hx139_1 := cellA HB hx139_1
          replace hx139_2 := cellA HB hx139_2
          replace hx139_3 := cellA HB hx139_3
          replace p139 := eq_true p139
          replace q139 := eq_true q139
          have p140 : 0 ≤ (x5_1 : Int) := of_decide_eq_true (by first | (with_reducible assumption) | assumption)
          have q140 : x5_1 < (l0.length : Int) := of_decide_eq_true (by first | (with_reducible assumption) | assumption)
          obtain ⟨ad140, e140, hx140_0, hx140_1, hx140_2, hx140_3⟩ := at_T36 HR0.out x5_1 p140 q140
          have hw140_3 := hx140_3
          have hw140_2 := hx140_2
          have hw140_1 := hx140_1
          have hw140_0 := hx140_0
          obtain rfl : ad131 = ad140 := (by injection e140)
          replace hx140_0 := cellA HB hx140_0
          replace hx140_1 := cellA HB hx140_1
          replace hx140_2 := cellA HB hx140_2
          replace hx140_3 := cellA HB hx140_3
          replace p140 := eq_true p140
          replace q140 := eq_true q140
          have p142 : 0 ≤ (x5_1 : Int) := of_decide_eq_true (by first | (with_reducible assumption) | assumption)
          have q142 : x5_1 < (l0.length : Int) := of_decide_eq_true (by first | (with_reducible assumption) | assumption)
          obtain ⟨ad142, e142, hx142_0, hx142_1, hx142_2, hx142_3⟩ := at_T36 HR0.out x5_1 p142 q142
          have hw142_3 := hx142_3
          have hw142_2 := hx142_2
          have hw142_1 := hx142_1
          have hw142_0 := hx142_0
          obtain rfl : ad131 = ad142 := (by injection e142)
          replace hx142_0 := cellA HB hx142_0
          replace hx142_1 := cellA HB hx142_1
          replace hx142_2 := cellA HB hx142_2
          replace hx142_3 := cellA HB hx142_3
          replace p142 := eq_true p142
          replace q142 := eq_true q142
          refine start_ (n := 43) (S := fun w' => w'.cell? ⟨gb130, 0, none⟩ = some (.int .i64 a1_0) ∧ w'.cell? ⟨gb130, 1, none⟩ = some (.int .i64 a1_1) ∧ w'.cell? (ad131.add ((x5_1).toNat * 4)) = some (.int .i64 ((rd_T36 l0 x5_1).f0.f0)) ∧ w'.cell? ⟨(ad131.add ((x5_1).toNat * 4)).block, (ad131.add ((x5_1).toNat * 4)).off + 1, none⟩ = some (.int .i64 ((rd_T36 l0 x5_1).f0.f1)) ∧ w'.cell? ⟨(ad131.add ((x5_1).toNat * 4)).block, (ad131.add ((x5_1).toNat * 4)).off + 2, none⟩ = some (.int .i64 ((rd_T36 l0 x5_1).f1.f0)) ∧ w'.cell? ⟨(ad131.add ((x5_1).toNat * 4)).block, (ad131.add ((x5_1).toNat * 4)).off + 3, none⟩ = some (.int .i64 ((rd_T36 l0 x5_1).f1.f1)) ∧ w'.cell? (ad131.add ((x5_1).toNat * 4)) = some (.int .i64 ((rd_T36 l0 x5_1).f0.f0)) ∧ w'.cell? ⟨(ad131.add ((x5_1).toNat * 4)).block, (ad131.add ((x5_1).toNat * 4)).off + 1, none⟩ = some (.int .i64 ((rd_T36 l0 x5_1).f0.f1)) ∧ w'.cell? ⟨(ad131.add ((x5_1).toNat * 4)).block, (ad131.add ((x5_1).toNat * 4)).off + 2, none⟩ = some (.int .i64 ((rd_T36 l0 x5_1).f1.f0)) ∧ w'.cell? ⟨(ad131.add ((x5_1).toNat * 4)).block, (ad131.add ((x5_1).toNat * 4)).off + 3, none⟩ = some (.int .i64 ((rd_T36 l0 x5_1).f1.f1)) ∧ w'.cell? (ad131.add ((x5_1).toNat * 4)) = some (.int .i64 ((rd_T36 l0 x5_1).f0.f0)) ∧ w'.cell? ⟨(ad131.add ((x5_1).toNat * 4)).block, (ad131.add ((x5_1).toNat * 4)).off + 1, none⟩ = some (.int .i64 ((rd_T36 l0 x5_1).f0.f1)) ∧ w'.cell? ⟨(ad131.add ((x5_1).toNat * 4)).block, (ad131.add ((x5_1).toNat * 4)).off + 2, none⟩ = some (.int .i64 ((rd_T36 l0 x5_1).f1.f0)) ∧ w'.cell? ⟨(ad131.add ((x5_1).toNat * 4)).block, (ad131.add ((x5_1).toNat * 4)).off + 3, none⟩ = some (.int .i64 ((rd_T36 l0 x5_1).f1.f1)) ∧ w'.cell? (ad131.add ((x5_1).toNat * 4)) = some (.int .i64 ((rd_T36 l0 x5_1).f0.f0)) ∧ w'.cell? ⟨(ad131.add ((x5_1).toNat * 4)).block, (ad131.add ((x5_1).toNat * 4)).off + 1, none⟩ = some (.int .i64 ((rd_T36 l0 x5_1).f0.f1)) ∧ w'.cell? ⟨(ad131.add ((x5_1).toNat * 4)).block, (ad131.add ((x5_1).toNat * 4)).off + 2, none⟩ = some (.int .i64 ((rd_T36 l0 x5_1).f1.f0)) ∧ w'.cell? ⟨(ad131.add ((x5_1).toNat * 4)).block, (ad131.add ((x5_1).toNat * 4)).off + 3, none⟩ = some (.int .i64 ((rd_T36 l0 x5_1).f1.f1)) ∧ w'.cell? (ad131.add ((x5_1).toNat * 4)) = some (.int .i64 ((rd_T36 l0 x5_1).f0.f0)) ∧ w'.cell? ⟨(ad131.add ((x5_1).toNat * 4)).block, (ad131.add ((x5_1).toNat * 4)).off + 1, none⟩ = some (.int .i64 ((rd_T36 l0 x5_1).f0.f1)) ∧ w'.cell? ⟨(ad131.add ((x5_1).toNat * 4)).block, (ad131.add ((x5_1).toNat * 4)).off + 2, none⟩ = some (.int .i64 ((rd_T36 l0 x5_1).f1.f0)) ∧ w'.cell? ⟨(ad131.add ((x5_1).toNat * 4)).block, (ad131.add ((x5_1).toNat * 4)).off + 3, none⟩ = some (.int .i64 ((rd_T36 l0 x5_1).f1.f1))) (ds := []) (bl 0 43) (by kernel_rfl) rfl rfl ⟨(blk_cell BK130.out 0).trans rfl, (blk_cell BK130.out 1).trans rfl, (cellA HB hw131_0), (cellA HB hw131_1), (cellA HB hw131_2), (cellA HB hw131_3), (cellA HB hw133_0), (cellA HB hw133_1), (cellA HB hw133_2), (cellA HB hw133_3), (cellA HB hw139_0), (cellA HB hw139_1), (cellA HB hw139_2), (cellA HB hw139_3), (cellA HB hw140_0), (cellA HB hw140_1), (cellA HB hw140_2), (cellA HB hw140_3), (cellA HB hw142_0), (cellA HB hw142_1), (cellA HB hw142_2), (cellA HB hw142_3)⟩ (fun hHeld => ?_); refine with_tabW quernref13_Refuse.tab4 quernref13_Refuse.bits4 (fun HT_ HW_ => ?_)
          generalize wr.drew = w42 at BK130 HB hx131_0 hx131_1 hx131_2 hx131_3 hx133_0 hx133_1 hx133_2 hx133_3 hx139_0 hx139_1 hx139_2 hx139_3 hx140_0 hx140_1 hx140_2 hx140_3 hx142_0 hx142_1 hx142_2 hx142_3 hHeld ⊢
          refine pure_ (i := 0) (N := some 14) (v := ?_) (a' := ?_) (bl 1 43) rfl rfl (any_of HT_.out (by kernel_rfl)) (fun _ _ _ h => h) (Or.inl ⟨by rfl, ?_⟩) ?_ ?_
          rotate_left
          ·intro w'
           go_simp
           with_reducible rfl
          rotate_left
          ·simp only [Act.put, List.setIfInBounds_toArray, List.set_cons_zero, List.set_cons_succ, i64_w, i32_w]
           rfl
          refine pure_ (i := 1) (N := some 15) (v := ?_) (a' := ?_) (bl 2 43) rfl rfl (any_of HT_.out (by kernel_rfl)) (fun _ _ _ h => h) (Or.inl ⟨by rfl, ?_⟩) ?_ ?_
          rotate_left
          ·intro w'
           go_simp
           with_reducible rfl
          rotate_left
          ·simp only [Act.put, List.setIfInBounds_toArray, List.set_cons_zero, List.set_cons_succ, i64_w, i32_w]
           rfl
          refine pure_ (i := 2) (N := some 16) (v := ?_) (a' := ?_) (bl 3 43) rfl rfl (any_of HT_.out (by kernel_rfl)) (fun _ _ _ h => h) (Or.inl ⟨by rfl, ?_⟩) ?_ ?_
          rotate_left
          ·intro w'
           go_simp
           with_reducible rfl
          rotate_left
          ·simp only [Act.put, List.setIfInBounds_toArray, List.set_cons_zero, List.set_cons_succ, i64_w, i32_w]
           rfl
          refine pure_ (i := 3) (N := some 17) (v := ?_) (a' := ?_) (bl 4 43) rfl rfl (any_of HT_.out (by kernel_rfl)) (fun _ _ _ h => h) (Or.inl ⟨by rfl, ?_⟩) ?_ ?_
          rotate_left
          ·intro w'
           go_simp
           with_reducible rfl
          rotate_left
          ·simp only [Act.put, List.setIfInBounds_toArray, List.set_cons_zero, List.set_cons_succ, i64_w, i32_w]
           rfl
          refine take_ (i := 4) (N := some 18) (v := ?_) (a' := ?_) (bl 5 43) rfl rfl (take_ofW HT_.out HW_.out (by kernel_rfl)) (fun _ _ _ h => h) (Or.inl ⟨by rfl, ?_⟩) hHeld ?_ ?_
          rotate_left
          ·rintro w' ⟨s0, s1, s2, s3, s4, s5, s6, s7, s8, s9, s10, s11, s12, s13, s14, s15, s16, s17, s18, s19, s20, s21⟩
           go_simp
           with_reducible rfl
          rotate_left
          ·simp only [Act.put, List.setIfInBounds_toArray, List.set_cons_zero, List.set_cons_succ, i64_w, i32_w]
           rfl
          refine one_ (i := 5) (N := some 19) (bl 6 43) rfl rfl (one_of HT_.out (by kernel_rfl)) (by decide) (fun K hK => ?_)
          refine goes_ Try.func35 (by kernel_rfl) rfl #[.agg #[.int .i64 ((rd_T36 l0 x5_1).f0.f0), .int .i64 ((rd_T36 l0 x5_1).f0.f1)]] (by rfl) rfl rfl (by (try simp only [List.map_toArray, List.map_cons, List.map_nil]); first | done | rfl | (simp only [List.length_drop, List.length_take]; rfl)) ?_
          with_reducible refine (quernref13_Place.calls ((rd_T36 l0 x5_1).f0.f0) ((rd_T36 l0 x5_1).f0.f1) true _ A6.out).mono ?_
          rintro e w43 ⟨rfl, hb⟩
          refine ⟨_, rfl, ?_⟩
          have n0_ := Aside0.mk (blk_below (g := gb130) (o := .cells #[.int .i64 a1_0, .int .i64 a1_1] 24 (0, 0)) (by (with_reducible repeat (first | refine blk_drewN ?_ _ | refine blk_drew ?_ | refine blk_alloc ?_ _)); exact BK130.out) hb)
          have n1_ := Aside0.mk (below_step (by repeat (first | (with_reducible first | exact HB.out | apply below_alloc | apply pw_below_drewN | apply below_drew1 | refine below_set ?_ GE130.out) | exact HB.out)) hb)
          clear BK130
          clear HB
          have BK130 := n0_
          have HB := n1_
          clear n0_ n1_
          (try clear hb)
          (try clear hb2)
          (try clear hk)
          (try clear hi)
          refine hK.out _ _ ⟨(blk_cell BK130.out 0).trans rfl, (blk_cell BK130.out 1).trans rfl, (cellA HB hw131_0), (cellA HB hw131_1), (cellA HB hw131_2), (cellA HB hw131_3), (cellA HB hw133_0), (cellA HB hw133_1), (cellA HB hw133_2), (cellA HB hw133_3), (cellA HB hw139_0), (cellA HB hw139_1), (cellA HB hw139_2), (cellA HB hw139_3), (cellA HB hw140_0), (cellA HB hw140_1), (cellA HB hw140_2), (cellA HB hw140_3), (cellA HB hw142_0), (cellA HB hw142_1), (cellA HB hw142_2), (cellA HB hw142_3)⟩ (fun hHeld => ?_)
          clear hK K
          refine norm_ (a' := ?_) ?_ ?_
          rotate_left
          ·show Act.put _ (some 19) _ = _
           simp only [Act.put, List.setIfInBounds_toArray, List.set_cons_zero, List.set_cons_succ, i64_w, i32_w]
           rfl
          refine pure_ (i := 6) (N := some 20) (v := ?_) (a' := ?_) (bl 7 43) rfl rfl (any_of HT_.out (by kernel_rfl)) (fun _ _ _ h => h) (Or.inl ⟨by rfl, ?_⟩) ?_ ?_
          rotate_left
          ·intro w'
           go_simp
           with_reducible rfl
          rotate_left
          ·simp only [Act.put, List.setIfInBounds_toArray, List.set_cons_zero, List.set_cons_succ, i64_w, i32_w]
           rfl
          refine pure_ (i := 7) (N := some 21) (v := ?_) (a' := ?_) (bl 8 43) rfl rfl (any_of HT_.out (by kernel_rfl)) (fun _ _ _ h => h) (Or.inl ⟨by rfl, ?_⟩) ?_ ?_
          rotate_left
          ·intro w'
           go_simp
           with_reducible rfl
          rotate_left
          ·simp only [Act.put, List.setIfInBounds_toArray, List.set_cons_zero, List.set_cons_succ, i64_w, i32_w]
           rfl
          refine pure_ (i := 8) (N := some 22) (v := ?_) (a' := ?_) (bl 9 43) rfl rfl (any_of HT_.out (by kernel_rfl)) (fun _ _ _ h => h) (Or.inl ⟨by rfl, ?_⟩) ?_ ?_
          rotate_left
          ·intro w'
           go_simp
           with_reducible rfl
          rotate_left
          ·simp only [Act.put, List.setIfInBounds_toArray, List.set_cons_zero, List.set_cons_succ, i64_w, i32_w]
           rfl
          refine pure_ (i := 9) (N := some 23) (v := ?_) (a' := ?_) (bl 10 43) rfl rfl (any_of HT_.out (by kernel_rfl)) (fun _ _ _ h => h) (Or.inl ⟨by rfl, ?_⟩) ?_ ?_
          rotate_left
          ·intro w'
           go_simp
           with_reducible rfl
          rotate_left
          ·simp only [Act.put, List.setIfInBounds_toArray, List.set_cons_zero, List.set_cons_succ, i64_w, i32_w]
           rfl
          refine pure_ (i := 10) (N := some 24) (v := ?_) (a' := ?_) (bl 11 43) rfl rfl (any_of HT_.out (by kernel_rfl)) (fun _ _ _ h => h) (Or.inl ⟨by rfl, ?_⟩) ?_ ?_
          rotate_left
          ·intro w'
           go_simp
           with_reducible rfl
          rotate_left
          ·simp only [Act.put, List.setIfInBounds_toArray, List.set_cons_zero, List.set_cons_succ, i64_w, i32_w]
           rfl
          refine pure_ (i := 11) (N := some 25) (v := ?_) (a' := ?_) (bl 12 43) rfl rfl (any_of HT_.out (by kernel_rfl)) (fun _ _ _ h => h) (Or.inl ⟨by rfl, ?_⟩) ?_ ?_
          rotate_left
          ·intro w'
           go_simp
           with_reducible rfl
          rotate_left
          ·simp only [Act.put, List.setIfInBounds_toArray, List.set_cons_zero, List.set_cons_succ, i64_w, i32_w]
           rfl
          refine take_ (i := 12) (N := some 26) (v := ?_) (a' := ?_) (bl 13 43) rfl rfl (take_ofW HT_.out HW_.out (by kernel_rfl)) (fun _ _ _ h => h) (Or.inl ⟨by rfl, ?_⟩) hHeld ?_ ?_
          rotate_left
          ·rintro w' ⟨s0, s1, s2, s3, s4, s5, s6, s7, s8, s9, s10, s11, s12, s13, s14, s15, s16, s17, s18, s19, s20, s21⟩
           go_simp
           with_reducible rfl
          rotate_left
          ·simp only [Act.put, List.setIfInBounds_toArray, List.set_cons_zero, List.set_cons_succ, i64_w, i32_w]
           rfl
          refine one_ (i := 13) (N := some 27) (bl 14 43) rfl rfl (one_of HT_.out (by kernel_rfl)) (by decide) (fun K hK => ?_)
          refine goes_ Try.func35 (by kernel_rfl) rfl #[.agg #[.int .i64 ((rd_T36 l0 x5_1).f1.f0), .int .i64 ((rd_T36 l0 x5_1).f1.f1)]] (by rfl) rfl rfl (by (try simp only [List.map_toArray, List.map_cons, List.map_nil]); first | done | rfl | (simp only [List.length_drop, List.length_take]; rfl)) ?_
          with_reducible refine (quernref13_Place.calls ((rd_T36 l0 x5_1).f1.f0) ((rd_T36 l0 x5_1).f1.f1) false _ A8.out).mono ?_
          rintro e w44 ⟨rfl, hb⟩
          refine ⟨_, rfl, ?_⟩
          have n0_ := Aside0.mk (blk_below (g := gb130) (o := .cells #[.int .i64 a1_0, .int .i64 a1_1] 24 (0, 0)) (by (with_reducible repeat (first | refine blk_drewN ?_ _ | refine blk_drew ?_ | refine blk_alloc ?_ _)); exact BK130.out) hb)
          have n1_ := Aside0.mk (below_step (by repeat (first | (with_reducible first | exact HB.out | apply below_alloc | apply pw_below_drewN | apply below_drew1 | refine below_set ?_ GE130.out) | exact HB.out)) hb)
          clear BK130
          clear HB
          have BK130 := n0_
          have HB := n1_
          clear n0_ n1_
          (try clear hb)
          (try clear hb2)
          (try clear hk)
          (try clear hi)
          refine hK.out _ _ ⟨(blk_cell BK130.out 0).trans rfl, (blk_cell BK130.out 1).trans rfl, (cellA HB hw131_0), (cellA HB hw131_1), (cellA HB hw131_2), (cellA HB hw131_3), (cellA HB hw133_0), (cellA HB hw133_1), (cellA HB hw133_2), (cellA HB hw133_3), (cellA HB hw139_0), (cellA HB hw139_1), (cellA HB hw139_2), (cellA HB hw139_3), (cellA HB hw140_0), (cellA HB hw140_1), (cellA HB hw140_2), (cellA HB hw140_3), (cellA HB hw142_0), (cellA HB hw142_1), (cellA HB hw142_2), (cellA HB hw142_3)⟩ (fun hHeld => ?_)
          clear hK K
          refine norm_ (a' := ?_) ?_ ?_
          rotate_left
          ·show Act.put _ (some 27) _ = _
           simp only [Act.put, List.setIfInBounds_toArray, List.set_cons_zero, List.set_cons_succ, i64_w, i32_w]
           rfl
          refine pure_ (i := 14) (N := some 28) (v := ?_) (a' := ?_) (bl 15 43) rfl rfl (any_of HT_.out (by kernel_rfl)) (fun _ _ _ h => h) (Or.inl ⟨by rfl, ?_⟩) ?_ ?_
          rotate_left
          ·intro w'
           go_simp
           with_reducible rfl
          rotate_left
          ·simp only [Act.put, List.setIfInBounds_toArray, List.set_cons_zero, List.set_cons_succ, i64_w, i32_w]
           rfl
          refine pure_ (i := 15) (N := some 29) (v := ?_) (a' := ?_) (bl 16 43) rfl rfl (any_of HT_.out (by kernel_rfl)) (fun _ _ _ h => h) (Or.inl ⟨by rfl, ?_⟩) ?_ ?_
          rotate_left
          ·intro w'
           go_simp
           with_reducible rfl
          rotate_left
          ·simp only [Act.put, List.setIfInBounds_toArray, List.set_cons_zero, List.set_cons_succ, i64_w, i32_w]
           rfl
          refine pure_ (i := 16) (N := some 30) (v := ?_) (a' := ?_) (bl 17 43) rfl rfl (any_of HT_.out (by kernel_rfl)) (fun _ _ _ h => h) (Or.inl ⟨by rfl, ?_⟩) ?_ ?_
          rotate_left
          ·intro w'
           go_simp
           with_reducible rfl
          rotate_left
          ·simp only [Act.put, List.setIfInBounds_toArray, List.set_cons_zero, List.set_cons_succ, i64_w, i32_w]
           rfl
          refine pure_ (i := 17) (N := some 31) (v := ?_) (a' := ?_) (bl 18 43) rfl rfl (any_of HT_.out (by kernel_rfl)) (fun _ _ _ h => h) (Or.inl ⟨by rfl, ?_⟩) ?_ ?_
          rotate_left
          ·intro w'
           go_simp
           with_reducible rfl
          rotate_left
          ·simp only [Act.put, List.setIfInBounds_toArray, List.set_cons_zero, List.set_cons_succ, i64_w, i32_w]
           rfl
          refine pure_ (i := 18) (N := some 32) (v := ?_) (a' := ?_) (bl 19 43) rfl rfl (any_of HT_.out (by kernel_rfl)) (fun _ _ _ h => h) (Or.inl ⟨by rfl, ?_⟩) ?_ ?_
          rotate_left
          ·intro w'
           go_simp
           with_reducible rfl
          rotate_left
          ·simp only [Act.put, List.setIfInBounds_toArray, List.set_cons_zero, List.set_cons_succ, i64_w, i32_w]
           rfl
          refine pure_ (i := 19) (N := some 33) (v := ?_) (a' := ?_) (bl 20 43) rfl rfl (any_of HT_.out (by kernel_rfl)) (fun _ _ _ h => h) (Or.inl ⟨by rfl, ?_⟩) ?_ ?_
          rotate_left
          ·intro w'
           go_simp
           with_reducible rfl
          rotate_left
          ·simp only [Act.put, List.setIfInBounds_toArray, List.set_cons_zero, List.set_cons_succ, i64_w, i32_w]
           rfl
          refine pure_ (i := 20) (N := some 34) (v := ?_) (a' := ?_) (bl 21 43) rfl rfl (any_of HT_.out (by kernel_rfl)) (fun _ _ _ h => h) (Or.inl ⟨by rfl, ?_⟩) ?_ ?_
          rotate_left
          ·intro w'
           go_simp
           with_reducible rfl
          rotate_left
          ·simp only [Act.put, List.setIfInBounds_toArray, List.set_cons_zero, List.set_cons_succ, i64_w, i32_w]
           rfl
          refine take_ (i := 21) (N := some 35) (v := ?_) (a' := ?_) (bl 22 43) rfl rfl (take_ofW HT_.out HW_.out (by kernel_rfl)) (fun _ _ _ h => h) (Or.inl ⟨by rfl, ?_⟩) hHeld ?_ ?_
          rotate_left
          ·rintro w' ⟨s0, s1, s2, s3, s4, s5, s6, s7, s8, s9, s10, s11, s12, s13, s14, s15, s16, s17, s18, s19, s20, s21⟩
           go_simp
           with_reducible rfl
          rotate_left
          ·simp only [Act.put, List.setIfInBounds_toArray, List.set_cons_zero, List.set_cons_succ, i64_w, i32_w]
           rfl
          refine pure_ (i := 22) (N := some 36) (v := ?_) (a' := ?_) (bl 23 43) rfl rfl (any_of HT_.out (by kernel_rfl)) (fun _ _ _ h => h) (Or.inl ⟨by rfl, ?_⟩) ?_ ?_
          rotate_left
          ·intro w'
           go_simp
           with_reducible rfl
          rotate_left
          ·simp only [Act.put, List.setIfInBounds_toArray, List.set_cons_zero, List.set_cons_succ, i64_w, i32_w]
           rfl
          refine pure_ (i := 23) (N := some 37) (v := ?_) (a' := ?_) (bl 24 43) rfl rfl (any_of HT_.out (by kernel_rfl)) (fun _ _ _ h => h) (Or.inl ⟨by rfl, ?_⟩) ?_ ?_
          rotate_left
          ·intro w'
           go_simp
           with_reducible rfl
          rotate_left
          ·simp only [Act.put, List.setIfInBounds_toArray, List.set_cons_zero, List.set_cons_succ, i64_w, i32_w]
           rfl
          refine pure_ (i := 24) (N := some 38) (v := ?_) (a' := ?_) (bl 25 43) rfl rfl (any_of HT_.out (by kernel_rfl)) (fun _ _ _ h => h) (Or.inl ⟨by rfl, ?_⟩) ?_ ?_
          rotate_left
          ·intro w'
           go_simp
           with_reducible rfl
          rotate_left
          ·simp only [Act.put, List.setIfInBounds_toArray, List.set_cons_zero, List.set_cons_succ, i64_w, i32_w]
           rfl
          refine pure_ (i := 25) (N := some 39) (v := ?_) (a' := ?_) (bl 26 43) rfl rfl (any_of HT_.out (by kernel_rfl)) (fun _ _ _ h => h) (Or.inl ⟨by rfl, ?_⟩) ?_ ?_
          rotate_left
          ·intro w'
           go_simp
           with_reducible rfl
          rotate_left
          ·simp only [Act.put, List.setIfInBounds_toArray, List.set_cons_zero, List.set_cons_succ, i64_w, i32_w]
           rfl
          refine pure_ (i := 26) (N := some 40) (v := ?_) (a' := ?_) (bl 27 43) rfl rfl (any_of HT_.out (by kernel_rfl)) (fun _ _ _ h => h) (Or.inl ⟨by rfl, ?_⟩) ?_ ?_
          rotate_left
          ·intro w'
           go_simp
           with_reducible rfl
          rotate_left
          ·simp only [Act.put, List.setIfInBounds_toArray, List.set_cons_zero, List.set_cons_succ, i64_w, i32_w]
           rfl
          refine pure_ (i := 27) (N := some 41) (v := ?_) (a' := ?_) (bl 28 43) rfl rfl (any_of HT_.out (by kernel_rfl)) (fun _ _ _ h => h) (Or.inl ⟨by rfl, ?_⟩) ?_ ?_
          rotate_left
          ·intro w'
           go_simp
           with_reducible rfl
          rotate_left
          ·simp only [Act.put, List.setIfInBounds_toArray, List.set_cons_zero, List.set_cons_succ, i64_w, i32_w]
           rfl
          refine pure_ (i := 28) (N := some 42) (v := ?_) (a' := ?_) (bl 29 43) rfl rfl (any_of HT_.out (by kernel_rfl)) (fun _ _ _ h => h) (Or.inl ⟨by rfl, ?_⟩) ?_ ?_
          rotate_left
          ·intro w'
           go_simp
           with_reducible rfl
          rotate_left
          ·simp only [Act.put, List.setIfInBounds_toArray, List.set_cons_zero, List.set_cons_succ, i64_w, i32_w]
           rfl
          refine pure_ (i := 29) (N := some 43) (v := ?_) (a' := ?_) (bl 30 43) rfl rfl (any_of HT_.out (by kernel_rfl)) (fun _ _ _ h => h) (Or.inl ⟨by rfl, ?_⟩) ?_ ?_
          rotate_left
          ·intro w'
           go_simp
           with_reducible rfl
          rotate_left
          ·simp only [Act.put, List.setIfInBounds_toArray, List.set_cons_zero, List.set_cons_succ, i64_w, i32_w]
           rfl
          refine take_ (i := 30) (N := some 44) (v := ?_) (a' := ?_) (bl 31 43) rfl rfl (take_ofW HT_.out HW_.out (by kernel_rfl)) (fun _ _ _ h => h) (Or.inl ⟨by rfl, ?_⟩) hHeld ?_ ?_
          rotate_left
          ·rintro w' ⟨s0, s1, s2, s3, s4, s5, s6, s7, s8, s9, s10, s11, s12, s13, s14, s15, s16, s17, s18, s19, s20, s21⟩
           go_simp
           with_reducible rfl
          rotate_left
          ·simp only [Act.put, List.setIfInBounds_toArray, List.set_cons_zero, List.set_cons_succ, i64_w, i32_w]
           rfl
          refine take_ (i := 31) (N := some 45) (v := ?_) (a' := ?_) (bl 32 43) rfl rfl (take_ofW HT_.out HW_.out (by kernel_rfl)) (fun _ _ _ h => h) (Or.inl ⟨by rfl, ?_⟩) hHeld ?_ ?_
          rotate_left
          ·rintro w' ⟨s0, s1, s2, s3, s4, s5, s6, s7, s8, s9, s10, s11, s12, s13, s14, s15, s16, s17, s18, s19, s20, s21⟩
           go_simp
           with_reducible rfl
          rotate_left
          ·simp only [Act.put, List.setIfInBounds_toArray, List.set_cons_zero, List.set_cons_succ, i64_w, i32_w]
           rfl
          refine one_ (i := 32) (N := some 46) (bl 33 43) rfl rfl (one_of HT_.out (by kernel_rfl)) (by decide) (fun K hK => ?_)
          refine goes_ Try.func27 (by kernel_rfl) rfl #[.agg #[.int .i64 ((rd_T36 l0 x5_1).f0.f0), .int .i64 ((rd_T36 l0 x5_1).f0.f1)], .agg #[.int .i64 a1_0, .int .i64 a1_1]] (by rfl) rfl rfl (by (try simp only [List.map_toArray, List.map_cons, List.map_nil]); first | done | rfl | (simp only [List.length_drop, List.length_take]; rfl)) ?_
          with_reducible refine (quernref13_Same.calls ((rd_T36 l0 x5_1).f0.f0) ((rd_T36 l0 x5_1).f0.f1) a1_0 a1_1 false _ A29.out).mono ?_
          rintro e w45 ⟨rfl, hb⟩
          refine ⟨_, rfl, ?_⟩
          have n0_ := Aside0.mk (blk_below (g := gb130) (o := .cells #[.int .i64 a1_0, .int .i64 a1_1] 24 (0, 0)) (by (with_reducible repeat (first | refine blk_drewN ?_ _ | refine blk_drew ?_ | refine blk_alloc ?_ _)); exact BK130.out) hb)
          have n1_ := Aside0.mk (below_step (by repeat (first | (with_reducible first | exact HB.out | apply below_alloc | apply pw_below_drewN | apply below_drew1 | refine below_set ?_ GE130.out) | exact HB.out)) hb)
          clear BK130
          clear HB
          have BK130 := n0_
          have HB := n1_
          clear n0_ n1_
          (try clear hb)
          (try clear hb2)
          (try clear hk)
          (try clear hi)
          refine hK.out _ _ ⟨(blk_cell BK130.out 0).trans rfl, (blk_cell BK130.out 1).trans rfl, (cellA HB hw131_0), (cellA HB hw131_1), (cellA HB hw131_2), (cellA HB hw131_3), (cellA HB hw133_0), (cellA HB hw133_1), (cellA HB hw133_2), (cellA HB hw133_3), (cellA HB hw139_0), (cellA HB hw139_1), (cellA HB hw139_2), (cellA HB hw139_3), (cellA HB hw140_0), (cellA HB hw140_1), (cellA HB hw140_2), (cellA HB hw140_3), (cellA HB hw142_0), (cellA HB hw142_1), (cellA HB hw142_2), (cellA HB hw142_3)⟩ (fun hHeld => ?_)
          clear hK K
          refine norm_ (a' := ?_) ?_ ?_
          rotate_left
          ·show Act.put _ (some 46) _ = _
           simp only [Act.put, List.setIfInBounds_toArray, List.set_cons_zero, List.set_cons_succ, i64_w, i32_w]
           rfl
          refine pure_ (i := 33) (N := some 47) (v := ?_) (a' := ?_) (bl 34 43) rfl rfl (any_of HT_.out (by kernel_rfl)) (fun _ _ _ h => h) (Or.inl ⟨by rfl, ?_⟩) ?_ ?_
          rotate_left
          ·intro w'
           go_simp
           with_reducible rfl
          rotate_left
          ·simp only [Act.put, List.setIfInBounds_toArray, List.set_cons_zero, List.set_cons_succ, i64_w, i32_w]
           rfl
          refine pure_ (i := 34) (N := some 48) (v := ?_) (a' := ?_) (bl 35 43) rfl rfl (any_of HT_.out (by kernel_rfl)) (fun _ _ _ h => h) (Or.inl ⟨by rfl, ?_⟩) ?_ ?_
          rotate_left
          ·intro w'
           go_simp
           with_reducible rfl
          rotate_left
          ·simp only [Act.put, List.setIfInBounds_toArray, List.set_cons_zero, List.set_cons_succ, i64_w, i32_w]
           rfl
          refine pure_ (i := 35) (N := some 49) (v := ?_) (a' := ?_) (bl 36 43) rfl rfl (any_of HT_.out (by kernel_rfl)) (fun _ _ _ h => h) (Or.inl ⟨by rfl, ?_⟩) ?_ ?_
          rotate_left
          ·intro w'
           go_simp
           with_reducible rfl
          rotate_left
          ·simp only [Act.put, List.setIfInBounds_toArray, List.set_cons_zero, List.set_cons_succ, i64_w, i32_w]
           rfl
          refine pure_ (i := 36) (N := some 50) (v := ?_) (a' := ?_) (bl 37 43) rfl rfl (any_of HT_.out (by kernel_rfl)) (fun _ _ _ h => h) (Or.inl ⟨by rfl, ?_⟩) ?_ ?_
          rotate_left
          ·intro w'
           go_simp
           with_reducible rfl
          rotate_left
          ·simp only [Act.put, List.setIfInBounds_toArray, List.set_cons_zero, List.set_cons_succ, i64_w, i32_w]
           rfl
          refine pure_ (i := 37) (N := some 51) (v := ?_) (a' := ?_) (bl 38 43) rfl rfl (any_of HT_.out (by kernel_rfl)) (fun _ _ _ h => h) (Or.inl ⟨by rfl, ?_⟩) ?_ ?_
          rotate_left
          ·intro w'
           go_simp
           with_reducible rfl
          rotate_left
          ·simp only [Act.put, List.setIfInBounds_toArray, List.set_cons_zero, List.set_cons_succ, i64_w, i32_w]
           rfl
          refine pure_ (i := 38) (N := some 52) (v := ?_) (a' := ?_) (bl 39 43) rfl rfl (any_of HT_.out (by kernel_rfl)) (fun _ _ _ h => h) (Or.inl ⟨by rfl, ?_⟩) ?_ ?_
          rotate_left
          ·intro w'
           go_simp
           with_reducible rfl
          rotate_left
          ·simp only [Act.put, List.setIfInBounds_toArray, List.set_cons_zero, List.set_cons_succ, i64_w, i32_w]
           rfl
          refine take_ (i := 39) (N := some 53) (v := ?_) (a' := ?_) (bl 40 43) rfl rfl (take_ofW HT_.out HW_.out (by kernel_rfl)) (fun _ _ _ h => h) (Or.inl ⟨by rfl, ?_⟩) hHeld ?_ ?_
          rotate_left
          ·rintro w' ⟨s0, s1, s2, s3, s4, s5, s6, s7, s8, s9, s10, s11, s12, s13, s14, s15, s16, s17, s18, s19, s20, s21⟩
           go_simp
           with_reducible rfl
          rotate_left
          ·simp only [Act.put, List.setIfInBounds_toArray, List.set_cons_zero, List.set_cons_succ, i64_w, i32_w]
           rfl
          refine take_ (i := 40) (N := some 54) (v := ?_) (a' := ?_) (bl 41 43) rfl rfl (take_ofW HT_.out HW_.out (by kernel_rfl)) (fun _ _ _ h => h) (Or.inl ⟨by rfl, ?_⟩) hHeld ?_ ?_
          rotate_left
          ·rintro w' ⟨s0, s1, s2, s3, s4, s5, s6, s7, s8, s9, s10, s11, s12, s13, s14, s15, s16, s17, s18, s19, s20, s21⟩
           go_simp
           with_reducible rfl
          rotate_left
          ·simp only [Act.put, List.setIfInBounds_toArray, List.set_cons_zero, List.set_cons_succ, i64_w, i32_w]
           rfl
          refine one_ (i := 41) (N := some 55) (bl 42 43) rfl rfl (one_of HT_.out (by kernel_rfl)) (by decide) (fun K hK => ?_)
          refine goes_ Try.func27 (by kernel_rfl) rfl #[.agg #[.int .i64 ((rd_T36 l0 x5_1).f1.f0), .int .i64 ((rd_T36 l0 x5_1).f1.f1)], .agg #[.int .i64 a1_0, .int .i64 a1_1]] (by rfl) rfl rfl (by (try simp only [List.map_toArray, List.map_cons, List.map_nil]); first | done | rfl | (simp only [List.length_drop, List.length_take]; rfl)) ?_
          with_reducible refine (quernref13_Same.calls ((rd_T36 l0 x5_1).f1.f0) ((rd_T36 l0 x5_1).f1.f1) a1_0 a1_1 false _ A35.out).mono ?_
          rintro e w46 ⟨rfl, hb⟩
          refine ⟨_, rfl, ?_⟩
          have n0_ := Aside0.mk (blk_below (g := gb130) (o := .cells #[.int .i64 a1_0, .int .i64 a1_1] 24 (0, 0)) (by (with_reducible repeat (first | refine blk_drewN ?_ _ | refine blk_drew ?_ | refine blk_alloc ?_ _)); exact BK130.out) hb)
          have n1_ := Aside0.mk (below_step (by repeat (first | (with_reducible first | exact HB.out | apply below_alloc | apply pw_below_drewN | apply below_drew1 | refine below_set ?_ GE130.out) | exact HB.out)) hb)
          clear BK130
          clear HB
          have BK130 := n0_
          have HB := n1_
          clear n0_ n1_
          (try clear hb)
          (try clear hb2)
          (try clear hk)
          (try clear hi)
          refine hK.out _ _ ⟨(blk_cell BK130.out 0).trans rfl, (blk_cell BK130.out 1).trans rfl, (cellA HB hw131_0), (cellA HB hw131_1), (cellA HB hw131_2), (cellA HB hw131_3), (cellA HB hw133_0), (cellA HB hw133_1), (cellA HB hw133_2), (cellA HB hw133_3), (cellA HB hw139_0), (cellA HB hw139_1), (cellA HB hw139_2), (cellA HB hw139_3), (cellA HB hw140_0), (cellA HB hw140_1), (cellA HB hw140_2), (cellA HB hw140_3), (cellA HB hw142_0), (cellA HB hw142_1), (cellA HB hw142_2), (cellA HB hw142_3)⟩ (fun hHeld => ?_)
          clear hK K
          refine norm_ (a' := ?_) ?_ ?_
          rotate_left
          ·show Act.put _ (some 55) _ = _
           simp only [Act.put, List.setIfInBounds_toArray, List.set_cons_zero, List.set_cons_succ, i64_w, i32_w]
           rfl
          refine pure_ (i := 42) (N := some 56) (v := ?_) (a' := ?_) (bl 43 43) rfl rfl (any_of HT_.out (by kernel_rfl)) (fun _ _ _ h => h) (Or.inl ⟨by rfl, ?_⟩) ?_ ?_
          rotate_left
          ·intro w'
           go_simp
           with_reducible rfl
          rotate_left
          ·simp only [Act.put, List.setIfInBounds_toArray, List.set_cons_zero, List.set_cons_succ, i64_w, i32_w]
           rfl
          refine done_ (done_of HT_.out (by kernel_rfl)) ?_
          try go_wp2
          go_roundg k1
          case measure => have := HK1.out; omega
          case rel => exact ⟨(wrap64 (x5_1 + 1)), (by first | rfl | (simp; done) | (simp [*]; done)), H', ⟨by have := HK1.out; omega⟩, ⟨by (with_reducible repeat (first | refine blk_drewN ?_ _ | refine blk_drew ?_ | refine blk_alloc ?_ _)); exact BK130.out⟩, ⟨by repeat (first | (with_reducible first | exact HB.out | apply below_alloc | apply pw_below_drewN | apply below_drew1 | refine below_set ?_ GE130.out) | exact HB.out)⟩⟩
       ·rw [if_neg c28] at H
        have c28b0 : (((rd_T36 l0 x5_1).f1.f0) == 3) = false := beq_eq_false_iff_ne.mpr c28
        have c28b1 : (((rd_T36 l0 x5_1).f1.f0) != 3) = true := bne_iff_ne.mpr c28
        obtain rfl := Option.some.inj H
        try go_wp2
        have n0_ := Aside0.mk (blk_drew BK130.out)
        have n1_ := Aside0.mk (below_drew1 HB.out)
        clear BK130
        clear HB
        have BK130 := n0_
        have HB := n1_
        clear n0_ n1_
        have p131 : 0 ≤ (x5_1 : Int) := of_decide_eq_true (by first | (with_reducible assumption) | assumption)
        have q131 : x5_1 < (l0.length : Int) := of_decide_eq_true (by first | (with_reducible assumption) | assumption)
        obtain ⟨ad131, e131, hx131_0, hx131_1, hx131_2, hx131_3⟩ := at_T36 HR0.out x5_1 p131 q131
        have hw131_3 := hx131_3
        have hw131_2 := hx131_2
        have hw131_1 := hx131_1
        have hw131_0 := hx131_0
        cases e131
        replace hx131_0 := cellA HB hx131_0
        replace hx131_1 := cellA HB hx131_1
        replace hx131_2 := cellA HB hx131_2
        replace hx131_3 := cellA HB hx131_3
        replace p131 := eq_true p131
        replace q131 := eq_true q131
        have p133 : 0 ≤ (x5_1 : Int) := of_decide_eq_true (by first | (with_reducible assumption) | assumption)
        have q133 : x5_1 < (l0.length : Int) := of_decide_eq_true (by first | (with_reducible assumption) | assumption)
        obtain ⟨ad133, e133, hx133_0, hx133_1, hx133_2, hx133_3⟩ := at_T36 HR0.out x5_1 p133 q133
        have hw133_3 := hx133_3
        have hw133_2 := hx133_2
        have hw133_1 := hx133_1
        have hw133_0 := hx133_0
        obtain rfl : ad131 = ad133 := (by injection e133)
        replace hx133_0 := cellA HB hx133_0
        replace hx133_1 := cellA HB hx133_1
        replace hx133_2 := cellA HB hx133_2
        replace hx133_3 := cellA HB hx133_3
        replace p133 := eq_true p133
        replace q133 := eq_true q133
        have p139 : 0 ≤ (x5_1 : Int) := of_decide_eq_true (by first | (with_reducible assumption) | assumption)
        have q139 : x5_1 < (l0.length : Int) := of_decide_eq_true (by first | (with_reducible assumption) | assumption)
        obtain ⟨ad139, e139, hx139_0, hx139_1, hx139_2, hx139_3⟩ := at_T36 HR0.out x5_1 p139 q139
        have hw139_3 := hx139_3
        have hw139_2 := hx139_2
        have hw139_1 := hx139_1
        have hw139_0 := hx139_0
        obtain rfl : ad131 = ad139 := (by injection e139)
        replace hx139_0 := cellA HB hx139_0
        replace hx139_1 := cellA HB hx139_1
        replace hx139_2 := cellA HB hx139_2
        replace hx139_3 := cellA HB hx139_3
        replace p139 := eq_true p139
        replace q139 := eq_true q139
        refine start_ (n := 43) (S := fun w' => w'.cell? (ad131.add ((x5_1).toNat * 4)) = some (.int .i64 ((rd_T36 l0 x5_1).f0.f0)) ∧ w'.cell? ⟨(ad131.add ((x5_1).toNat * 4)).block, (ad131.add ((x5_1).toNat * 4)).off + 1, none⟩ = some (.int .i64 ((rd_T36 l0 x5_1).f0.f1)) ∧ w'.cell? ⟨(ad131.add ((x5_1).toNat * 4)).block, (ad131.add ((x5_1).toNat * 4)).off + 2, none⟩ = some (.int .i64 ((rd_T36 l0 x5_1).f1.f0)) ∧ w'.cell? ⟨(ad131.add ((x5_1).toNat * 4)).block, (ad131.add ((x5_1).toNat * 4)).off + 3, none⟩ = some (.int .i64 ((rd_T36 l0 x5_1).f1.f1)) ∧ w'.cell? (ad131.add ((x5_1).toNat * 4)) = some (.int .i64 ((rd_T36 l0 x5_1).f0.f0)) ∧ w'.cell? ⟨(ad131.add ((x5_1).toNat * 4)).block, (ad131.add ((x5_1).toNat * 4)).off + 1, none⟩ = some (.int .i64 ((rd_T36 l0 x5_1).f0.f1)) ∧ w'.cell? ⟨(ad131.add ((x5_1).toNat * 4)).block, (ad131.add ((x5_1).toNat * 4)).off + 2, none⟩ = some (.int .i64 ((rd_T36 l0 x5_1).f1.f0)) ∧ w'.cell? ⟨(ad131.add ((x5_1).toNat * 4)).block, (ad131.add ((x5_1).toNat * 4)).off + 3, none⟩ = some (.int .i64 ((rd_T36 l0 x5_1).f1.f1)) ∧ w'.cell? (ad131.add ((x5_1).toNat * 4)) = some (.int .i64 ((rd_T36 l0 x5_1).f0.f0)) ∧ w'.cell? ⟨(ad131.add ((x5_1).toNat * 4)).block, (ad131.add ((x5_1).toNat * 4)).off + 1, none⟩ = some (.int .i64 ((rd_T36 l0 x5_1).f0.f1)) ∧ w'.cell? ⟨(ad131.add ((x5_1).toNat * 4)).block, (ad131.add ((x5_1).toNat * 4)).off + 2, none⟩ = some (.int .i64 ((rd_T36 l0 x5_1).f1.f0)) ∧ w'.cell? ⟨(ad131.add ((x5_1).toNat * 4)).block, (ad131.add ((x5_1).toNat * 4)).off + 3, none⟩ = some (.int .i64 ((rd_T36 l0 x5_1).f1.f1))) (ds := []) (bl 0 43) (by kernel_rfl) rfl rfl ⟨(cellA HB hw131_0), (cellA HB hw131_1), (cellA HB hw131_2), (cellA HB hw131_3), (cellA HB hw133_0), (cellA HB hw133_1), (cellA HB hw133_2), (cellA HB hw133_3), (cellA HB hw139_0), (cellA HB hw139_1), (cellA HB hw139_2), (cellA HB hw139_3)⟩ (fun hHeld => ?_); refine with_tabW quernref13_Refuse.tab4 quernref13_Refuse.bits4 (fun HT_ HW_ => ?_)
        generalize wr.drew = w47 at BK130 HB hx131_0 hx131_1 hx131_2 hx131_3 hx133_0 hx133_1 hx133_2 hx133_3 hx139_0 hx139_1 hx139_2 hx139_3 hHeld ⊢
        refine pure_ (i := 0) (N := some 14) (v := ?_) (a' := ?_) (bl 1 43) rfl rfl (any_of HT_.out (by kernel_rfl)) (fun _ _ _ h => h) (Or.inl ⟨by rfl, ?_⟩) ?_ ?_
        rotate_left
        ·intro w'
         go_simp
         with_reducible rfl
        rotate_left
        ·simp only [Act.put, List.setIfInBounds_toArray, List.set_cons_zero, List.set_cons_succ, i64_w, i32_w]
         rfl
        refine pure_ (i := 1) (N := some 15) (v := ?_) (a' := ?_) (bl 2 43) rfl rfl (any_of HT_.out (by kernel_rfl)) (fun _ _ _ h => h) (Or.inl ⟨by rfl, ?_⟩) ?_ ?_
        rotate_left
        ·intro w'
         go_simp
         with_reducible rfl
        rotate_left
        ·simp only [Act.put, List.setIfInBounds_toArray, List.set_cons_zero, List.set_cons_succ, i64_w, i32_w]
         rfl
        refine pure_ (i := 2) (N := some 16) (v := ?_) (a' := ?_) (bl 3 43) rfl rfl (any_of HT_.out (by kernel_rfl)) (fun _ _ _ h => h) (Or.inl ⟨by rfl, ?_⟩) ?_ ?_
        rotate_left
        ·intro w'
         go_simp
         with_reducible rfl
        rotate_left
        ·simp only [Act.put, List.setIfInBounds_toArray, List.set_cons_zero, List.set_cons_succ, i64_w, i32_w]
         rfl
        refine pure_ (i := 3) (N := some 17) (v := ?_) (a' := ?_) (bl 4 43) rfl rfl (any_of HT_.out (by kernel_rfl)) (fun _ _ _ h => h) (Or.inl ⟨by rfl, ?_⟩) ?_ ?_
        rotate_left
        ·intro w'
         go_simp
         with_reducible rfl
        rotate_left
        ·simp only [Act.put, List.setIfInBounds_toArray, List.set_cons_zero, List.set_cons_succ, i64_w, i32_w]
         rfl
        refine take_ (i := 4) (N := some 18) (v := ?_) (a' := ?_) (bl 5 43) rfl rfl (take_ofW HT_.out HW_.out (by kernel_rfl)) (fun _ _ _ h => h) (Or.inl ⟨by rfl, ?_⟩) hHeld ?_ ?_
        rotate_left
        ·rintro w' ⟨s0, s1, s2, s3, s4, s5, s6, s7, s8, s9, s10, s11⟩
         go_simp
         with_reducible rfl
        rotate_left
        ·simp only [Act.put, List.setIfInBounds_toArray, List.set_cons_zero, List.set_cons_succ, i64_w, i32_w]
         rfl
        refine one_ (i := 5) (N := some 19) (bl 6 43) rfl rfl (one_of HT_.out (by kernel_rfl)) (by decide) (fun K hK => ?_)
        refine goes_ Try.func35 (by kernel_rfl) rfl #[.agg #[.int .i64 ((rd_T36 l0 x5_1).f0.f0), .int .i64 ((rd_T36 l0 x5_1).f0.f1)]] (by rfl) rfl rfl (by (try simp only [List.map_toArray, List.map_cons, List.map_nil]); first | done | rfl | (simp only [List.length_drop, List.length_take]; rfl)) ?_
        with_reducible refine (quernref13_Place.calls ((rd_T36 l0 x5_1).f0.f0) ((rd_T36 l0 x5_1).f0.f1) true _ A6.out).mono ?_
        rintro e w48 ⟨rfl, hb⟩
        refine ⟨_, rfl, ?_⟩
        have n0_ := Aside0.mk (blk_below (g := gb130) (o := .cells #[.int .i64 a1_0, .int .i64 a1_1] 24 (0, 0)) (by (with_reducible repeat (first | refine blk_drewN ?_ _ | refine blk_drew ?_ | refine blk_alloc ?_ _)); exact BK130.out) hb)
        have n1_ := Aside0.mk (below_step (by repeat (first | (with_reducible first | exact HB.out | apply below_alloc | apply pw_below_drewN | apply below_drew1 | refine below_set ?_ GE130.out) | exact HB.out)) hb)
        clear BK130
        clear HB
        have BK130 := n0_
        have HB := n1_
        clear n0_ n1_
        (try clear hb)
        (try clear hb2)
        (try clear hk)
        (try clear hi)
        refine hK.out _ _ ⟨(cellA HB hw131_0), (cellA HB hw131_1), (cellA HB hw131_2), (cellA HB hw131_3), (cellA HB hw133_0), (cellA HB hw133_1), (cellA HB hw133_2), (cellA HB hw133_3), (cellA HB hw139_0), (cellA HB hw139_1), (cellA HB hw139_2), (cellA HB hw139_3)⟩ (fun hHeld => ?_)
        clear hK K
        refine norm_ (a' := ?_) ?_ ?_
        rotate_left
        ·show Act.put _ (some 19) _ = _
         simp only [Act.put, List.setIfInBounds_toArray, List.set_cons_zero, List.set_cons_succ, i64_w, i32_w]
         rfl
        refine pure_ (i := 6) (N := some 20) (v := ?_) (a' := ?_) (bl 7 43) rfl rfl (any_of HT_.out (by kernel_rfl)) (fun _ _ _ h => h) (Or.inl ⟨by rfl, ?_⟩) ?_ ?_
        rotate_left
        ·intro w'
         go_simp
         with_reducible rfl
        rotate_left
        ·simp only [Act.put, List.setIfInBounds_toArray, List.set_cons_zero, List.set_cons_succ, i64_w, i32_w]
         rfl
        refine pure_ (i := 7) (N := some 21) (v := ?_) (a' := ?_) (bl 8 43) rfl rfl (any_of HT_.out (by kernel_rfl)) (fun _ _ _ h => h) (Or.inl ⟨by rfl, ?_⟩) ?_ ?_
        rotate_left
        ·intro w'
         go_simp
         with_reducible rfl
        rotate_left
        ·simp only [Act.put, List.setIfInBounds_toArray, List.set_cons_zero, List.set_cons_succ, i64_w, i32_w]
         rfl
        refine pure_ (i := 8) (N := some 22) (v := ?_) (a' := ?_) (bl 9 43) rfl rfl (any_of HT_.out (by kernel_rfl)) (fun _ _ _ h => h) (Or.inl ⟨by rfl, ?_⟩) ?_ ?_
        rotate_left
        ·intro w'
         go_simp
         with_reducible rfl
        rotate_left
        ·simp only [Act.put, List.setIfInBounds_toArray, List.set_cons_zero, List.set_cons_succ, i64_w, i32_w]
         rfl
        refine pure_ (i := 9) (N := some 23) (v := ?_) (a' := ?_) (bl 10 43) rfl rfl (any_of HT_.out (by kernel_rfl)) (fun _ _ _ h => h) (Or.inl ⟨by rfl, ?_⟩) ?_ ?_
        rotate_left
        ·intro w'
         go_simp
         with_reducible rfl
        rotate_left
        ·simp only [Act.put, List.setIfInBounds_toArray, List.set_cons_zero, List.set_cons_succ, i64_w, i32_w]
         rfl
        refine pure_ (i := 10) (N := some 24) (v := ?_) (a' := ?_) (bl 11 43) rfl rfl (any_of HT_.out (by kernel_rfl)) (fun _ _ _ h => h) (Or.inl ⟨by rfl, ?_⟩) ?_ ?_
        rotate_left
        ·intro w'
         go_simp
         with_reducible rfl
        rotate_left
        ·simp only [Act.put, List.setIfInBounds_toArray, List.set_cons_zero, List.set_cons_succ, i64_w, i32_w]
         rfl
        refine pure_ (i := 11) (N := some 25) (v := ?_) (a' := ?_) (bl 12 43) rfl rfl (any_of HT_.out (by kernel_rfl)) (fun _ _ _ h => h) (Or.inl ⟨by rfl, ?_⟩) ?_ ?_
        rotate_left
        ·intro w'
         go_simp
         with_reducible rfl
        rotate_left
        ·simp only [Act.put, List.setIfInBounds_toArray, List.set_cons_zero, List.set_cons_succ, i64_w, i32_w]
         rfl
        refine take_ (i := 12) (N := some 26) (v := ?_) (a' := ?_) (bl 13 43) rfl rfl (take_ofW HT_.out HW_.out (by kernel_rfl)) (fun _ _ _ h => h) (Or.inl ⟨by rfl, ?_⟩) hHeld ?_ ?_
        rotate_left
        ·rintro w' ⟨s0, s1, s2, s3, s4, s5, s6, s7, s8, s9, s10, s11⟩
         go_simp
         with_reducible rfl
        rotate_left
        ·simp only [Act.put, List.setIfInBounds_toArray, List.set_cons_zero, List.set_cons_succ, i64_w, i32_w]
         rfl
        refine one_ (i := 13) (N := some 27) (bl 14 43) rfl rfl (one_of HT_.out (by kernel_rfl)) (by decide) (fun K hK => ?_)
        refine goes_ Try.func35 (by kernel_rfl) rfl #[.agg #[.int .i64 ((rd_T36 l0 x5_1).f1.f0), .int .i64 ((rd_T36 l0 x5_1).f1.f1)]] (by rfl) rfl rfl (by (try simp only [List.map_toArray, List.map_cons, List.map_nil]); first | done | rfl | (simp only [List.length_drop, List.length_take]; rfl)) ?_
        with_reducible refine (quernref13_Place.calls ((rd_T36 l0 x5_1).f1.f0) ((rd_T36 l0 x5_1).f1.f1) false _ A8.out).mono ?_
        rintro e w49 ⟨rfl, hb⟩
        refine ⟨_, rfl, ?_⟩
        have n0_ := Aside0.mk (blk_below (g := gb130) (o := .cells #[.int .i64 a1_0, .int .i64 a1_1] 24 (0, 0)) (by (with_reducible repeat (first | refine blk_drewN ?_ _ | refine blk_drew ?_ | refine blk_alloc ?_ _)); exact BK130.out) hb)
        have n1_ := Aside0.mk (below_step (by repeat (first | (with_reducible first | exact HB.out | apply below_alloc | apply pw_below_drewN | apply below_drew1 | refine below_set ?_ GE130.out) | exact HB.out)) hb)
        clear BK130
        clear HB
        have BK130 := n0_
        have HB := n1_
        clear n0_ n1_
        (try clear hb)
        (try clear hb2)
        (try clear hk)
        (try clear hi)
        refine hK.out _ _ ⟨(cellA HB hw131_0), (cellA HB hw131_1), (cellA HB hw131_2), (cellA HB hw131_3), (cellA HB hw133_0), (cellA HB hw133_1), (cellA HB hw133_2), (cellA HB hw133_3), (cellA HB hw139_0), (cellA HB hw139_1), (cellA HB hw139_2), (cellA HB hw139_3)⟩ (fun hHeld => ?_)
        clear hK K
        refine norm_ (a' := ?_) ?_ ?_
        rotate_left
        ·show Act.put _ (some 27) _ = _
         simp only [Act.put, List.setIfInBounds_toArray, List.set_cons_zero, List.set_cons_succ, i64_w, i32_w]
         rfl
        refine pure_ (i := 14) (N := some 28) (v := ?_) (a' := ?_) (bl 15 43) rfl rfl (any_of HT_.out (by kernel_rfl)) (fun _ _ _ h => h) (Or.inl ⟨by rfl, ?_⟩) ?_ ?_
        rotate_left
        ·intro w'
         go_simp
         with_reducible rfl
        rotate_left
        ·simp only [Act.put, List.setIfInBounds_toArray, List.set_cons_zero, List.set_cons_succ, i64_w, i32_w]
         rfl
        refine pure_ (i := 15) (N := some 29) (v := ?_) (a' := ?_) (bl 16 43) rfl rfl (any_of HT_.out (by kernel_rfl)) (fun _ _ _ h => h) (Or.inl ⟨by rfl, ?_⟩) ?_ ?_
        rotate_left
        ·intro w'
         go_simp
         with_reducible rfl
        rotate_left
        ·simp only [Act.put, List.setIfInBounds_toArray, List.set_cons_zero, List.set_cons_succ, i64_w, i32_w]
         rfl
        refine pure_ (i := 16) (N := some 30) (v := ?_) (a' := ?_) (bl 17 43) rfl rfl (any_of HT_.out (by kernel_rfl)) (fun _ _ _ h => h) (Or.inl ⟨by rfl, ?_⟩) ?_ ?_
        rotate_left
        ·intro w'
         go_simp
         with_reducible rfl
        rotate_left
        ·simp only [Act.put, List.setIfInBounds_toArray, List.set_cons_zero, List.set_cons_succ, i64_w, i32_w]
         rfl
        refine pure_ (i := 17) (N := some 31) (v := ?_) (a' := ?_) (bl 18 43) rfl rfl (any_of HT_.out (by kernel_rfl)) (fun _ _ _ h => h) (Or.inl ⟨by rfl, ?_⟩) ?_ ?_
        rotate_left
        ·intro w'
         go_simp
         with_reducible rfl
        rotate_left
        ·simp only [Act.put, List.setIfInBounds_toArray, List.set_cons_zero, List.set_cons_succ, i64_w, i32_w]
         rfl
        refine pure_ (i := 18) (N := some 32) (v := ?_) (a' := ?_) (bl 19 43) rfl rfl (any_of HT_.out (by kernel_rfl)) (fun _ _ _ h => h) (Or.inl ⟨by rfl, ?_⟩) ?_ ?_
        rotate_left
        ·intro w'
         go_simp
         with_reducible rfl
        rotate_left
        ·simp only [Act.put, List.setIfInBounds_toArray, List.set_cons_zero, List.set_cons_succ, i64_w, i32_w]
         rfl
        refine pure_ (i := 19) (N := some 33) (v := ?_) (a' := ?_) (bl 20 43) rfl rfl (any_of HT_.out (by kernel_rfl)) (fun _ _ _ h => h) (Or.inl ⟨by rfl, ?_⟩) ?_ ?_
        rotate_left
        ·intro w'
         go_simp
         with_reducible rfl
        rotate_left
        ·simp only [Act.put, List.setIfInBounds_toArray, List.set_cons_zero, List.set_cons_succ, i64_w, i32_w]
         rfl
        refine pure_ (i := 20) (N := some 34) (v := ?_) (a' := ?_) (bl 21 43) rfl rfl (any_of HT_.out (by kernel_rfl)) (fun _ _ _ h => h) (Or.inl ⟨by rfl, ?_⟩) ?_ ?_
        rotate_left
        ·intro w'
         go_simp
         with_reducible rfl
        rotate_left
        ·simp only [Act.put, List.setIfInBounds_toArray, List.set_cons_zero, List.set_cons_succ, i64_w, i32_w]
         rfl
        refine take_ (i := 21) (N := some 35) (v := ?_) (a' := ?_) (bl 22 43) rfl rfl (take_ofW HT_.out HW_.out (by kernel_rfl)) (fun _ _ _ h => h) (Or.inl ⟨by rfl, ?_⟩) hHeld ?_ ?_
        rotate_left
        ·rintro w' ⟨s0, s1, s2, s3, s4, s5, s6, s7, s8, s9, s10, s11⟩
         go_simp
         with_reducible rfl
        rotate_left
        ·simp only [Act.put, List.setIfInBounds_toArray, List.set_cons_zero, List.set_cons_succ, i64_w, i32_w]
         rfl
        refine pure_ (i := 22) (N := some 36) (v := ?_) (a' := ?_) (bl 23 43) rfl rfl (any_of HT_.out (by kernel_rfl)) (fun _ _ _ h => h) (Or.inl ⟨by rfl, ?_⟩) ?_ ?_
        rotate_left
        ·intro w'
         go_simp
         with_reducible rfl
        rotate_left
        ·simp only [Act.put, List.setIfInBounds_toArray, List.set_cons_zero, List.set_cons_succ, i64_w, i32_w]
         rfl
        refine pure_ (i := 23) (N := some 37) (v := ?_) (a' := ?_) (bl 24 43) rfl rfl (any_of HT_.out (by kernel_rfl)) (fun _ _ _ h => h) (Or.inl ⟨by rfl, ?_⟩) ?_ ?_
        rotate_left
        ·intro w'
         go_simp
         with_reducible rfl
        rotate_left
        ·simp only [Act.put, List.setIfInBounds_toArray, List.set_cons_zero, List.set_cons_succ, i64_w, i32_w]
         rfl
        refine pure_ (i := 24) (N := some 38) (v := ?_) (a' := ?_) (bl 25 43) rfl rfl (any_of HT_.out (by kernel_rfl)) (fun _ _ _ h => h) (Or.inl ⟨by rfl, ?_⟩) ?_ ?_
        rotate_left
        ·intro w'
         go_simp
         with_reducible rfl
        rotate_left
        ·simp only [Act.put, List.setIfInBounds_toArray, List.set_cons_zero, List.set_cons_succ, i64_w, i32_w]
         rfl
        refine pure_ (i := 25) (N := some 39) (v := ?_) (a' := ?_) (bl 26 43) rfl rfl (any_of HT_.out (by kernel_rfl)) (fun _ _ _ h => h) (Or.inl ⟨by rfl, ?_⟩) ?_ ?_
        rotate_left
        ·intro w'
         go_simp
         with_reducible rfl
        rotate_left
        ·simp only [Act.put, List.setIfInBounds_toArray, List.set_cons_zero, List.set_cons_succ, i64_w, i32_w]
         rfl
        refine pure_ (i := 26) (N := some 40) (v := undef) (a' := ?_) (bl 27 43) rfl rfl (any_of HT_.out (by kernel_rfl)) (fun _ _ _ h => h) (Or.inr ⟨by rfl, rfl⟩) ?_ ?_
        rotate_left
        ·simp only [Act.put, List.setIfInBounds_toArray, List.set_cons_zero, List.set_cons_succ, i64_w, i32_w]
         rfl
        refine pure_ (i := 27) (N := some 41) (v := undef) (a' := ?_) (bl 28 43) rfl rfl (any_of HT_.out (by kernel_rfl)) (fun _ _ _ h => h) (Or.inr ⟨by rfl, rfl⟩) ?_ ?_
        rotate_left
        ·simp only [Act.put, List.setIfInBounds_toArray, List.set_cons_zero, List.set_cons_succ, i64_w, i32_w]
         rfl
        refine pure_ (i := 28) (N := some 42) (v := undef) (a' := ?_) (bl 29 43) rfl rfl (any_of HT_.out (by kernel_rfl)) (fun _ _ _ h => h) (Or.inr ⟨by rfl, rfl⟩) ?_ ?_
        rotate_left
        ·simp only [Act.put, List.setIfInBounds_toArray, List.set_cons_zero, List.set_cons_succ, i64_w, i32_w]
         rfl
        refine pure_ (i := 29) (N := some 43) (v := undef) (a' := ?_) (bl 30 43) rfl rfl (any_of HT_.out (by kernel_rfl)) (fun _ _ _ h => h) (Or.inr ⟨by rfl, rfl⟩) ?_ ?_
        rotate_left
        ·simp only [Act.put, List.setIfInBounds_toArray, List.set_cons_zero, List.set_cons_succ, i64_w, i32_w]
         rfl
        refine pure_ (i := 30) (N := some 44) (v := undef) (a' := ?_) (bl 31 43) rfl rfl (any_of HT_.out (by kernel_rfl)) (fun _ _ _ h => h) (Or.inr ⟨by rfl, rfl⟩) ?_ ?_
        rotate_left
        ·simp only [Act.put, List.setIfInBounds_toArray, List.set_cons_zero, List.set_cons_succ, i64_w, i32_w]
         rfl
        refine pure_ (i := 31) (N := some 45) (v := undef) (a' := ?_) (bl 32 43) rfl rfl (any_of HT_.out (by kernel_rfl)) (fun _ _ _ h => h) (Or.inr ⟨by rfl, rfl⟩) ?_ ?_
        rotate_left
        ·simp only [Act.put, List.setIfInBounds_toArray, List.set_cons_zero, List.set_cons_succ, i64_w, i32_w]
         rfl
        refine pure_ (i := 32) (N := some 46) (v := undef) (a' := ?_) (bl 33 43) rfl rfl (any_of HT_.out (by kernel_rfl)) (fun _ _ _ h => h) (Or.inr ⟨by rfl, rfl⟩) ?_ ?_
        rotate_left
        ·simp only [Act.put, List.setIfInBounds_toArray, List.set_cons_zero, List.set_cons_succ, i64_w, i32_w]
         rfl
        refine pure_ (i := 33) (N := some 47) (v := ?_) (a' := ?_) (bl 34 43) rfl rfl (any_of HT_.out (by kernel_rfl)) (fun _ _ _ h => h) (Or.inl ⟨by rfl, ?_⟩) ?_ ?_
        rotate_left
        ·intro w'
         go_simp
         with_reducible rfl
        rotate_left
        ·simp only [Act.put, List.setIfInBounds_toArray, List.set_cons_zero, List.set_cons_succ, i64_w, i32_w]
         rfl
        refine pure_ (i := 34) (N := some 48) (v := ?_) (a' := ?_) (bl 35 43) rfl rfl (any_of HT_.out (by kernel_rfl)) (fun _ _ _ h => h) (Or.inl ⟨by rfl, ?_⟩) ?_ ?_
        rotate_left
        ·intro w'
         go_simp
         with_reducible rfl
        rotate_left
        ·simp only [Act.put, List.setIfInBounds_toArray, List.set_cons_zero, List.set_cons_succ, i64_w, i32_w]
         rfl
        refine pure_ (i := 35) (N := some 49) (v := undef) (a' := ?_) (bl 36 43) rfl rfl (any_of HT_.out (by kernel_rfl)) (fun _ _ _ h => h) (Or.inr ⟨by rfl, rfl⟩) ?_ ?_
        rotate_left
        ·simp only [Act.put, List.setIfInBounds_toArray, List.set_cons_zero, List.set_cons_succ, i64_w, i32_w]
         rfl
        refine pure_ (i := 36) (N := some 50) (v := undef) (a' := ?_) (bl 37 43) rfl rfl (any_of HT_.out (by kernel_rfl)) (fun _ _ _ h => h) (Or.inr ⟨by rfl, rfl⟩) ?_ ?_
        rotate_left
        ·simp only [Act.put, List.setIfInBounds_toArray, List.set_cons_zero, List.set_cons_succ, i64_w, i32_w]
         rfl
        refine pure_ (i := 37) (N := some 51) (v := undef) (a' := ?_) (bl 38 43) rfl rfl (any_of HT_.out (by kernel_rfl)) (fun _ _ _ h => h) (Or.inr ⟨by rfl, rfl⟩) ?_ ?_
        rotate_left
        ·simp only [Act.put, List.setIfInBounds_toArray, List.set_cons_zero, List.set_cons_succ, i64_w, i32_w]
         rfl
        refine pure_ (i := 38) (N := some 52) (v := undef) (a' := ?_) (bl 39 43) rfl rfl (any_of HT_.out (by kernel_rfl)) (fun _ _ _ h => h) (Or.inr ⟨by rfl, rfl⟩) ?_ ?_
        rotate_left
        ·simp only [Act.put, List.setIfInBounds_toArray, List.set_cons_zero, List.set_cons_succ, i64_w, i32_w]
         rfl
        refine pure_ (i := 39) (N := some 53) (v := undef) (a' := ?_) (bl 40 43) rfl rfl (any_of HT_.out (by kernel_rfl)) (fun _ _ _ h => h) (Or.inr ⟨by rfl, rfl⟩) ?_ ?_
        rotate_left
        ·simp only [Act.put, List.setIfInBounds_toArray, List.set_cons_zero, List.set_cons_succ, i64_w, i32_w]
         rfl
        refine pure_ (i := 40) (N := some 54) (v := undef) (a' := ?_) (bl 41 43) rfl rfl (any_of HT_.out (by kernel_rfl)) (fun _ _ _ h => h) (Or.inr ⟨by rfl, rfl⟩) ?_ ?_
        rotate_left
        ·simp only [Act.put, List.setIfInBounds_toArray, List.set_cons_zero, List.set_cons_succ, i64_w, i32_w]
         rfl
        refine pure_ (i := 41) (N := some 55) (v := undef) (a' := ?_) (bl 42 43) rfl rfl (any_of HT_.out (by kernel_rfl)) (fun _ _ _ h => h) (Or.inr ⟨by rfl, rfl⟩) ?_ ?_
        rotate_left
        ·simp only [Act.put, List.setIfInBounds_toArray, List.set_cons_zero, List.set_cons_succ, i64_w, i32_w]
         rfl
        refine pure_ (i := 42) (N := some 56) (v := ?_) (a' := ?_) (bl 43 43) rfl rfl (any_of HT_.out (by kernel_rfl)) (fun _ _ _ h => h) (Or.inl ⟨by rfl, ?_⟩) ?_ ?_
        rotate_left
        ·intro w'
         go_simp
         with_reducible rfl
        rotate_left
        ·simp only [Act.put, List.setIfInBounds_toArray, List.set_cons_zero, List.set_cons_succ, i64_w, i32_w]
         rfl
        refine done_ (done_of HT_.out (by kernel_rfl)) ?_
        try go_wp2
        go_ret
        exact ⟨by first | rfl | (simp [errW_none, errW_some] <;> rfl) | (simp [*, errW_none, errW_some] <;> rfl), by repeat (first | (with_reducible first | exact HB.out | apply below_alloc | apply pw_below_drewN | apply below_drew1 | refine below_set ?_ GE130.out) | exact HB.out)⟩
     ·replace c7 := Bool.eq_false_iff.mpr c7
      subst c7
      have H1 : (some 131) = some r := by rw [if_neg (show ¬ (false = true) by decide)] at H; exact H
      clear H
      have H := H1
      clear H1
      obtain rfl := Option.some.inj H
      try go_wp2
      have n0_ := Aside0.mk (blk_drew BK130.out)
      have n1_ := Aside0.mk (below_drew1 HB.out)
      clear BK130
      clear HB
      have BK130 := n0_
      have HB := n1_
      clear n0_ n1_
      have p131 : 0 ≤ (x5_1 : Int) := of_decide_eq_true (by first | (with_reducible assumption) | assumption)
      have q131 : x5_1 < (l0.length : Int) := of_decide_eq_true (by first | (with_reducible assumption) | assumption)
      obtain ⟨ad131, e131, hx131_0, hx131_1, hx131_2, hx131_3⟩ := at_T36 HR0.out x5_1 p131 q131
      have hw131_3 := hx131_3
      have hw131_2 := hx131_2
      have hw131_1 := hx131_1
      have hw131_0 := hx131_0
      cases e131
      replace hx131_0 := cellA HB hx131_0
      replace hx131_1 := cellA HB hx131_1
      replace hx131_2 := cellA HB hx131_2
      replace hx131_3 := cellA HB hx131_3
      replace p131 := eq_true p131
      replace q131 := eq_true q131
      refine start_ (n := 43) (S := fun w' => w'.cell? (ad131.add ((x5_1).toNat * 4)) = some (.int .i64 ((rd_T36 l0 x5_1).f0.f0)) ∧ w'.cell? ⟨(ad131.add ((x5_1).toNat * 4)).block, (ad131.add ((x5_1).toNat * 4)).off + 1, none⟩ = some (.int .i64 ((rd_T36 l0 x5_1).f0.f1)) ∧ w'.cell? ⟨(ad131.add ((x5_1).toNat * 4)).block, (ad131.add ((x5_1).toNat * 4)).off + 2, none⟩ = some (.int .i64 ((rd_T36 l0 x5_1).f1.f0)) ∧ w'.cell? ⟨(ad131.add ((x5_1).toNat * 4)).block, (ad131.add ((x5_1).toNat * 4)).off + 3, none⟩ = some (.int .i64 ((rd_T36 l0 x5_1).f1.f1))) (ds := []) (bl 0 43) (by kernel_rfl) rfl rfl ⟨(cellA HB hw131_0), (cellA HB hw131_1), (cellA HB hw131_2), (cellA HB hw131_3)⟩ (fun hHeld => ?_); refine with_tabW quernref13_Refuse.tab4 quernref13_Refuse.bits4 (fun HT_ HW_ => ?_)
      generalize wr.drew = w50 at BK130 HB hx131_0 hx131_1 hx131_2 hx131_3 hHeld ⊢
      refine pure_ (i := 0) (N := some 14) (v := ?_) (a' := ?_) (bl 1 43) rfl rfl (any_of HT_.out (by kernel_rfl)) (fun _ _ _ h => h) (Or.inl ⟨by rfl, ?_⟩) ?_ ?_
      rotate_left
      ·intro w'
       go_simp
       with_reducible rfl
      rotate_left
      ·simp only [Act.put, List.setIfInBounds_toArray, List.set_cons_zero, List.set_cons_succ, i64_w, i32_w]
       rfl
      refine pure_ (i := 1) (N := some 15) (v := ?_) (a' := ?_) (bl 2 43) rfl rfl (any_of HT_.out (by kernel_rfl)) (fun _ _ _ h => h) (Or.inl ⟨by rfl, ?_⟩) ?_ ?_
      rotate_left
      ·intro w'
       go_simp
       with_reducible rfl
      rotate_left
      ·simp only [Act.put, List.setIfInBounds_toArray, List.set_cons_zero, List.set_cons_succ, i64_w, i32_w]
       rfl
      refine pure_ (i := 2) (N := some 16) (v := ?_) (a' := ?_) (bl 3 43) rfl rfl (any_of HT_.out (by kernel_rfl)) (fun _ _ _ h => h) (Or.inl ⟨by rfl, ?_⟩) ?_ ?_
      rotate_left
      ·intro w'
       go_simp
       with_reducible rfl
      rotate_left
      ·simp only [Act.put, List.setIfInBounds_toArray, List.set_cons_zero, List.set_cons_succ, i64_w, i32_w]
       rfl
      refine pure_ (i := 3) (N := some 17) (v := ?_) (a' := ?_) (bl 4 43) rfl rfl (any_of HT_.out (by kernel_rfl)) (fun _ _ _ h => h) (Or.inl ⟨by rfl, ?_⟩) ?_ ?_
      rotate_left
      ·intro w'
       go_simp
       with_reducible rfl
      rotate_left
      ·simp only [Act.put, List.setIfInBounds_toArray, List.set_cons_zero, List.set_cons_succ, i64_w, i32_w]
       rfl
      refine take_ (i := 4) (N := some 18) (v := ?_) (a' := ?_) (bl 5 43) rfl rfl (take_ofW HT_.out HW_.out (by kernel_rfl)) (fun _ _ _ h => h) (Or.inl ⟨by rfl, ?_⟩) hHeld ?_ ?_
      rotate_left
      ·rintro w' ⟨s0, s1, s2, s3⟩
       go_simp
       with_reducible rfl
      rotate_left
      ·simp only [Act.put, List.setIfInBounds_toArray, List.set_cons_zero, List.set_cons_succ, i64_w, i32_w]
       rfl
      refine one_ (i := 5) (N := some 19) (bl 6 43) rfl rfl (one_of HT_.out (by kernel_rfl)) (by decide) (fun K hK => ?_)
      refine goes_ Try.func35 (by kernel_rfl) rfl #[.agg #[.int .i64 ((rd_T36 l0 x5_1).f0.f0), .int .i64 ((rd_T36 l0 x5_1).f0.f1)]] (by rfl) rfl rfl (by (try simp only [List.map_toArray, List.map_cons, List.map_nil]); first | done | rfl | (simp only [List.length_drop, List.length_take]; rfl)) ?_
      with_reducible refine (quernref13_Place.calls ((rd_T36 l0 x5_1).f0.f0) ((rd_T36 l0 x5_1).f0.f1) false _ A6.out).mono ?_
      rintro e w51 ⟨rfl, hb⟩
      refine ⟨_, rfl, ?_⟩
      have n0_ := Aside0.mk (blk_below (g := gb130) (o := .cells #[.int .i64 a1_0, .int .i64 a1_1] 24 (0, 0)) (by (with_reducible repeat (first | refine blk_drewN ?_ _ | refine blk_drew ?_ | refine blk_alloc ?_ _)); exact BK130.out) hb)
      have n1_ := Aside0.mk (below_step (by repeat (first | (with_reducible first | exact HB.out | apply below_alloc | apply pw_below_drewN | apply below_drew1 | refine below_set ?_ GE130.out) | exact HB.out)) hb)
      clear BK130
      clear HB
      have BK130 := n0_
      have HB := n1_
      clear n0_ n1_
      (try clear hb)
      (try clear hb2)
      (try clear hk)
      (try clear hi)
      refine hK.out _ _ ⟨(cellA HB hw131_0), (cellA HB hw131_1), (cellA HB hw131_2), (cellA HB hw131_3)⟩ (fun hHeld => ?_)
      clear hK K
      refine norm_ (a' := ?_) ?_ ?_
      rotate_left
      ·show Act.put _ (some 19) _ = _
       simp only [Act.put, List.setIfInBounds_toArray, List.set_cons_zero, List.set_cons_succ, i64_w, i32_w]
       rfl
      refine pure_ (i := 6) (N := some 20) (v := ?_) (a' := ?_) (bl 7 43) rfl rfl (any_of HT_.out (by kernel_rfl)) (fun _ _ _ h => h) (Or.inl ⟨by rfl, ?_⟩) ?_ ?_
      rotate_left
      ·intro w'
       go_simp
       with_reducible rfl
      rotate_left
      ·simp only [Act.put, List.setIfInBounds_toArray, List.set_cons_zero, List.set_cons_succ, i64_w, i32_w]
       rfl
      refine pure_ (i := 7) (N := some 21) (v := ?_) (a' := ?_) (bl 8 43) rfl rfl (any_of HT_.out (by kernel_rfl)) (fun _ _ _ h => h) (Or.inl ⟨by rfl, ?_⟩) ?_ ?_
      rotate_left
      ·intro w'
       go_simp
       with_reducible rfl
      rotate_left
      ·simp only [Act.put, List.setIfInBounds_toArray, List.set_cons_zero, List.set_cons_succ, i64_w, i32_w]
       rfl
      refine pure_ (i := 8) (N := some 22) (v := undef) (a' := ?_) (bl 9 43) rfl rfl (any_of HT_.out (by kernel_rfl)) (fun _ _ _ h => h) (Or.inr ⟨by rfl, rfl⟩) ?_ ?_
      rotate_left
      ·simp only [Act.put, List.setIfInBounds_toArray, List.set_cons_zero, List.set_cons_succ, i64_w, i32_w]
       rfl
      refine pure_ (i := 9) (N := some 23) (v := undef) (a' := ?_) (bl 10 43) rfl rfl (any_of HT_.out (by kernel_rfl)) (fun _ _ _ h => h) (Or.inr ⟨by rfl, rfl⟩) ?_ ?_
      rotate_left
      ·simp only [Act.put, List.setIfInBounds_toArray, List.set_cons_zero, List.set_cons_succ, i64_w, i32_w]
       rfl
      refine pure_ (i := 10) (N := some 24) (v := undef) (a' := ?_) (bl 11 43) rfl rfl (any_of HT_.out (by kernel_rfl)) (fun _ _ _ h => h) (Or.inr ⟨by rfl, rfl⟩) ?_ ?_
      rotate_left
      ·simp only [Act.put, List.setIfInBounds_toArray, List.set_cons_zero, List.set_cons_succ, i64_w, i32_w]
       rfl
      refine pure_ (i := 11) (N := some 25) (v := undef) (a' := ?_) (bl 12 43) rfl rfl (any_of HT_.out (by kernel_rfl)) (fun _ _ _ h => h) (Or.inr ⟨by rfl, rfl⟩) ?_ ?_
      rotate_left
      ·simp only [Act.put, List.setIfInBounds_toArray, List.set_cons_zero, List.set_cons_succ, i64_w, i32_w]
       rfl
      refine pure_ (i := 12) (N := some 26) (v := undef) (a' := ?_) (bl 13 43) rfl rfl (any_of HT_.out (by kernel_rfl)) (fun _ _ _ h => h) (Or.inr ⟨by rfl, rfl⟩) ?_ ?_
      rotate_left
      ·simp only [Act.put, List.setIfInBounds_toArray, List.set_cons_zero, List.set_cons_succ, i64_w, i32_w]
       rfl
      refine pure_ (i := 13) (N := some 27) (v := undef) (a' := ?_) (bl 14 43) rfl rfl (any_of HT_.out (by kernel_rfl)) (fun _ _ _ h => h) (Or.inr ⟨by rfl, rfl⟩) ?_ ?_
      rotate_left
      ·simp only [Act.put, List.setIfInBounds_toArray, List.set_cons_zero, List.set_cons_succ, i64_w, i32_w]
       rfl
      refine pure_ (i := 14) (N := some 28) (v := undef) (a' := ?_) (bl 15 43) rfl rfl (any_of HT_.out (by kernel_rfl)) (fun _ _ _ h => h) (Or.inr ⟨by rfl, rfl⟩) ?_ ?_
      rotate_left
      ·simp only [Act.put, List.setIfInBounds_toArray, List.set_cons_zero, List.set_cons_succ, i64_w, i32_w]
       rfl
      refine pure_ (i := 15) (N := some 29) (v := undef) (a' := ?_) (bl 16 43) rfl rfl (any_of HT_.out (by kernel_rfl)) (fun _ _ _ h => h) (Or.inr ⟨by rfl, rfl⟩) ?_ ?_
      rotate_left
      ·simp only [Act.put, List.setIfInBounds_toArray, List.set_cons_zero, List.set_cons_succ, i64_w, i32_w]
       rfl
      refine pure_ (i := 16) (N := some 30) (v := undef) (a' := ?_) (bl 17 43) rfl rfl (any_of HT_.out (by kernel_rfl)) (fun _ _ _ h => h) (Or.inr ⟨by rfl, rfl⟩) ?_ ?_
      rotate_left
      ·simp only [Act.put, List.setIfInBounds_toArray, List.set_cons_zero, List.set_cons_succ, i64_w, i32_w]
       rfl
      refine pure_ (i := 17) (N := some 31) (v := undef) (a' := ?_) (bl 18 43) rfl rfl (any_of HT_.out (by kernel_rfl)) (fun _ _ _ h => h) (Or.inr ⟨by rfl, rfl⟩) ?_ ?_
      rotate_left
      ·simp only [Act.put, List.setIfInBounds_toArray, List.set_cons_zero, List.set_cons_succ, i64_w, i32_w]
       rfl
      refine pure_ (i := 18) (N := some 32) (v := undef) (a' := ?_) (bl 19 43) rfl rfl (any_of HT_.out (by kernel_rfl)) (fun _ _ _ h => h) (Or.inr ⟨by rfl, rfl⟩) ?_ ?_
      rotate_left
      ·simp only [Act.put, List.setIfInBounds_toArray, List.set_cons_zero, List.set_cons_succ, i64_w, i32_w]
       rfl
      refine pure_ (i := 19) (N := some 33) (v := undef) (a' := ?_) (bl 20 43) rfl rfl (any_of HT_.out (by kernel_rfl)) (fun _ _ _ h => h) (Or.inr ⟨by rfl, rfl⟩) ?_ ?_
      rotate_left
      ·simp only [Act.put, List.setIfInBounds_toArray, List.set_cons_zero, List.set_cons_succ, i64_w, i32_w]
       rfl
      refine pure_ (i := 20) (N := some 34) (v := undef) (a' := ?_) (bl 21 43) rfl rfl (any_of HT_.out (by kernel_rfl)) (fun _ _ _ h => h) (Or.inr ⟨by rfl, rfl⟩) ?_ ?_
      rotate_left
      ·simp only [Act.put, List.setIfInBounds_toArray, List.set_cons_zero, List.set_cons_succ, i64_w, i32_w]
       rfl
      refine pure_ (i := 21) (N := some 35) (v := undef) (a' := ?_) (bl 22 43) rfl rfl (any_of HT_.out (by kernel_rfl)) (fun _ _ _ h => h) (Or.inr ⟨by rfl, rfl⟩) ?_ ?_
      rotate_left
      ·simp only [Act.put, List.setIfInBounds_toArray, List.set_cons_zero, List.set_cons_succ, i64_w, i32_w]
       rfl
      refine pure_ (i := 22) (N := some 36) (v := undef) (a' := ?_) (bl 23 43) rfl rfl (any_of HT_.out (by kernel_rfl)) (fun _ _ _ h => h) (Or.inr ⟨by rfl, rfl⟩) ?_ ?_
      rotate_left
      ·simp only [Act.put, List.setIfInBounds_toArray, List.set_cons_zero, List.set_cons_succ, i64_w, i32_w]
       rfl
      refine pure_ (i := 23) (N := some 37) (v := undef) (a' := ?_) (bl 24 43) rfl rfl (any_of HT_.out (by kernel_rfl)) (fun _ _ _ h => h) (Or.inr ⟨by rfl, rfl⟩) ?_ ?_
      rotate_left
      ·simp only [Act.put, List.setIfInBounds_toArray, List.set_cons_zero, List.set_cons_succ, i64_w, i32_w]
       rfl
      refine pure_ (i := 24) (N := some 38) (v := ?_) (a' := ?_) (bl 25 43) rfl rfl (any_of HT_.out (by kernel_rfl)) (fun _ _ _ h => h) (Or.inl ⟨by rfl, ?_⟩) ?_ ?_
      rotate_left
      ·intro w'
       go_simp
       with_reducible rfl
      rotate_left
      ·simp only [Act.put, List.setIfInBounds_toArray, List.set_cons_zero, List.set_cons_succ, i64_w, i32_w]
       rfl
      refine pure_ (i := 25) (N := some 39) (v := ?_) (a' := ?_) (bl 26 43) rfl rfl (any_of HT_.out (by kernel_rfl)) (fun _ _ _ h => h) (Or.inl ⟨by rfl, ?_⟩) ?_ ?_
      rotate_left
      ·intro w'
       go_simp
       with_reducible rfl
      rotate_left
      ·simp only [Act.put, List.setIfInBounds_toArray, List.set_cons_zero, List.set_cons_succ, i64_w, i32_w]
       rfl
      refine pure_ (i := 26) (N := some 40) (v := undef) (a' := ?_) (bl 27 43) rfl rfl (any_of HT_.out (by kernel_rfl)) (fun _ _ _ h => h) (Or.inr ⟨by rfl, rfl⟩) ?_ ?_
      rotate_left
      ·simp only [Act.put, List.setIfInBounds_toArray, List.set_cons_zero, List.set_cons_succ, i64_w, i32_w]
       rfl
      refine pure_ (i := 27) (N := some 41) (v := undef) (a' := ?_) (bl 28 43) rfl rfl (any_of HT_.out (by kernel_rfl)) (fun _ _ _ h => h) (Or.inr ⟨by rfl, rfl⟩) ?_ ?_
      rotate_left
      ·simp only [Act.put, List.setIfInBounds_toArray, List.set_cons_zero, List.set_cons_succ, i64_w, i32_w]
       rfl
      refine pure_ (i := 28) (N := some 42) (v := undef) (a' := ?_) (bl 29 43) rfl rfl (any_of HT_.out (by kernel_rfl)) (fun _ _ _ h => h) (Or.inr ⟨by rfl, rfl⟩) ?_ ?_
      rotate_left
      ·simp only [Act.put, List.setIfInBounds_toArray, List.set_cons_zero, List.set_cons_succ, i64_w, i32_w]
       rfl
      refine pure_ (i := 29) (N := some 43) (v := undef) (a' := ?_) (bl 30 43) rfl rfl (any_of HT_.out (by kernel_rfl)) (fun _ _ _ h => h) (Or.inr ⟨by rfl, rfl⟩) ?_ ?_
      rotate_left
      ·simp only [Act.put, List.setIfInBounds_toArray, List.set_cons_zero, List.set_cons_succ, i64_w, i32_w]
       rfl
      refine pure_ (i := 30) (N := some 44) (v := undef) (a' := ?_) (bl 31 43) rfl rfl (any_of HT_.out (by kernel_rfl)) (fun _ _ _ h => h) (Or.inr ⟨by rfl, rfl⟩) ?_ ?_
      rotate_left
      ·simp only [Act.put, List.setIfInBounds_toArray, List.set_cons_zero, List.set_cons_succ, i64_w, i32_w]
       rfl
      refine pure_ (i := 31) (N := some 45) (v := undef) (a' := ?_) (bl 32 43) rfl rfl (any_of HT_.out (by kernel_rfl)) (fun _ _ _ h => h) (Or.inr ⟨by rfl, rfl⟩) ?_ ?_
      rotate_left
      ·simp only [Act.put, List.setIfInBounds_toArray, List.set_cons_zero, List.set_cons_succ, i64_w, i32_w]
       rfl
      refine pure_ (i := 32) (N := some 46) (v := undef) (a' := ?_) (bl 33 43) rfl rfl (any_of HT_.out (by kernel_rfl)) (fun _ _ _ h => h) (Or.inr ⟨by rfl, rfl⟩) ?_ ?_
      rotate_left
      ·simp only [Act.put, List.setIfInBounds_toArray, List.set_cons_zero, List.set_cons_succ, i64_w, i32_w]
       rfl
      refine pure_ (i := 33) (N := some 47) (v := ?_) (a' := ?_) (bl 34 43) rfl rfl (any_of HT_.out (by kernel_rfl)) (fun _ _ _ h => h) (Or.inl ⟨by rfl, ?_⟩) ?_ ?_
      rotate_left
      ·intro w'
       go_simp
       with_reducible rfl
      rotate_left
      ·simp only [Act.put, List.setIfInBounds_toArray, List.set_cons_zero, List.set_cons_succ, i64_w, i32_w]
       rfl
      refine pure_ (i := 34) (N := some 48) (v := ?_) (a' := ?_) (bl 35 43) rfl rfl (any_of HT_.out (by kernel_rfl)) (fun _ _ _ h => h) (Or.inl ⟨by rfl, ?_⟩) ?_ ?_
      rotate_left
      ·intro w'
       go_simp
       with_reducible rfl
      rotate_left
      ·simp only [Act.put, List.setIfInBounds_toArray, List.set_cons_zero, List.set_cons_succ, i64_w, i32_w]
       rfl
      refine pure_ (i := 35) (N := some 49) (v := undef) (a' := ?_) (bl 36 43) rfl rfl (any_of HT_.out (by kernel_rfl)) (fun _ _ _ h => h) (Or.inr ⟨by rfl, rfl⟩) ?_ ?_
      rotate_left
      ·simp only [Act.put, List.setIfInBounds_toArray, List.set_cons_zero, List.set_cons_succ, i64_w, i32_w]
       rfl
      refine pure_ (i := 36) (N := some 50) (v := undef) (a' := ?_) (bl 37 43) rfl rfl (any_of HT_.out (by kernel_rfl)) (fun _ _ _ h => h) (Or.inr ⟨by rfl, rfl⟩) ?_ ?_
      rotate_left
      ·simp only [Act.put, List.setIfInBounds_toArray, List.set_cons_zero, List.set_cons_succ, i64_w, i32_w]
       rfl
      refine pure_ (i := 37) (N := some 51) (v := undef) (a' := ?_) (bl 38 43) rfl rfl (any_of HT_.out (by kernel_rfl)) (fun _ _ _ h => h) (Or.inr ⟨by rfl, rfl⟩) ?_ ?_
      rotate_left
      ·simp only [Act.put, List.setIfInBounds_toArray, List.set_cons_zero, List.set_cons_succ, i64_w, i32_w]
       rfl
      refine pure_ (i := 38) (N := some 52) (v := undef) (a' := ?_) (bl 39 43) rfl rfl (any_of HT_.out (by kernel_rfl)) (fun _ _ _ h => h) (Or.inr ⟨by rfl, rfl⟩) ?_ ?_
      rotate_left
      ·simp only [Act.put, List.setIfInBounds_toArray, List.set_cons_zero, List.set_cons_succ, i64_w, i32_w]
       rfl
      refine pure_ (i := 39) (N := some 53) (v := undef) (a' := ?_) (bl 40 43) rfl rfl (any_of HT_.out (by kernel_rfl)) (fun _ _ _ h => h) (Or.inr ⟨by rfl, rfl⟩) ?_ ?_
      rotate_left
      ·simp only [Act.put, List.setIfInBounds_toArray, List.set_cons_zero, List.set_cons_succ, i64_w, i32_w]
       rfl
      refine pure_ (i := 40) (N := some 54) (v := undef) (a' := ?_) (bl 41 43) rfl rfl (any_of HT_.out (by kernel_rfl)) (fun _ _ _ h => h) (Or.inr ⟨by rfl, rfl⟩) ?_ ?_
      rotate_left
      ·simp only [Act.put, List.setIfInBounds_toArray, List.set_cons_zero, List.set_cons_succ, i64_w, i32_w]
       rfl
      refine pure_ (i := 41) (N := some 55) (v := undef) (a' := ?_) (bl 42 43) rfl rfl (any_of HT_.out (by kernel_rfl)) (fun _ _ _ h => h) (Or.inr ⟨by rfl, rfl⟩) ?_ ?_
      rotate_left
      ·simp only [Act.put, List.setIfInBounds_toArray, List.set_cons_zero, List.set_cons_succ, i64_w, i32_w]
       rfl
      refine pure_ (i := 42) (N := some 56) (v := ?_) (a' := ?_) (bl 43 43) rfl rfl (any_of HT_.out (by kernel_rfl)) (fun _ _ _ h => h) (Or.inl ⟨by rfl, ?_⟩) ?_ ?_
      rotate_left
      ·intro w'
       go_simp
       with_reducible rfl
      rotate_left
      ·simp only [Act.put, List.setIfInBounds_toArray, List.set_cons_zero, List.set_cons_succ, i64_w, i32_w]
       rfl
      refine done_ (done_of HT_.out (by kernel_rfl)) ?_
      try go_wp2
      go_ret
      exact ⟨by first | rfl | (simp [errW_none, errW_some] <;> rfl) | (simp [*, errW_none, errW_some] <;> rfl), by repeat (first | (with_reducible first | exact HB.out | apply below_alloc | apply pw_below_drewN | apply below_drew1 | refine below_set ?_ GE130.out) | exact HB.out)⟩
    ·rw [if_neg c5] at H
     exact absurd H (by simp)
   ·rw [if_neg c4] at H
    have c4b0 : decide (x5_1 < (l0.length : Int)) = false := decide_eq_false c4
    clear c4
    replace H := Option.bind_eq_some_iff.mp H
    obtain ⟨t144, A520, H⟩ := H
    replace H : (if t144 = true then (quernref13_Refuse.l1 k1 l0 0) else (some 131)) = some r := H
    have A52 := Aside0.mk A520
    clear A520
    by_cases c53 : t144 = true
    ·subst c53
     have H1 : (quernref13_Refuse.l1 k1 l0 0) = some r := by rw [if_pos rfl] at H; exact H
     clear H
     have H := H1
     clear H1
     have H' := Aside0.mk H
     clear H
     have hcz54_0 : wr.cell? ⟨gb130, 0, none⟩ = some (.int .i64 a1_0) := (blk_cell BK130.out 0).trans rfl
     have hcz54_1 : wr.cell? ⟨gb130, 1, none⟩ = some (.int .i64 a1_1) := (blk_cell BK130.out 1).trans rfl
     have hfz54_0 := blk_frozen BK130.out 0
     have hfz54_1 := blk_frozen BK130.out 1
     go_wp2_with (first | ((with_reducible refine gate_callee (f := 35) rfl ?_); refine goesL_ (some 58) rfl rfl Try.func35 (by kernel_rfl) rfl #[.agg #[.int .i64 a1_0, .int .i64 a1_1]] rfl (by (try simp only [List.map_toArray, List.map_cons, List.map_nil]); first | done | rfl | (simp only [List.length_drop, List.length_take]; rfl)) ?_; (with_reducible refine (quernref13_Place.calls a1_0 a1_1 true _ A52.out).mono ?_); rintro e w55 ⟨rfl, hb⟩; refine ⟨_, rfl, ?_⟩; have n0_ := Aside0.mk (blk_below (g := gb130) (o := .cells #[.int .i64 a1_0, .int .i64 a1_1] 24 (0, 0)) (by (with_reducible repeat (first | refine blk_drewN ?_ _ | refine blk_drew ?_ | refine blk_alloc ?_ _)); exact BK130.out) hb); have n1_ := Aside0.mk (below_step (by repeat (first | (with_reducible first | exact HB.out | apply below_alloc | apply pw_below_drewN | apply below_drew1 | refine below_set ?_ GE130.out) | exact HB.out)) hb); clear BK130; clear HB; have BK130 := n0_; have HB := n1_; clear n0_ n1_; (try clear hb); (try clear hb2); (try clear hk); (try clear hi)))
     go_loopg [6] k1 (fun kq v6 w' => ∃ (x6_2 : Int), v6 = .int .i64 x6_2 ∧ Aside0 (quernref13_Refuse.l1 kq l0 x6_2 = some r) ∧ Aside0 (kq ≤ k1) ∧ Aside0 (w'.heap[gb130]? = some (.cells #[.int .i64 a1_0, .int .i64 a1_1] 24 (0, 0))) ∧ Aside0 (Below w.heap.size w w'))
     case atStart => exact ⟨(0), (by first | rfl | (simp; done) | (simp [*]; done)), H', ⟨Nat.le_refl _⟩, ⟨by (with_reducible repeat (first | refine blk_drewN ?_ _ | refine blk_drew ?_ | refine blk_alloc ?_ _)); exact BK130.out⟩, ⟨by repeat (first | (with_reducible first | exact HB.out | apply below_alloc | apply pw_below_drewN | apply below_drew1 | refine below_set ?_ GE130.out) | exact HB.out)⟩⟩
     case round =>
      clear H'
      try clear p1
      try clear q1
      try clear hx1
      try clear p2
      try clear c3
      try clear c4
      try clear c4b0
      try clear c5
      try clear c7
      try clear p13
      try clear q13
      try clear hx13
      try clear c35
      try clear c53
      try clear hcz54_0
      try clear hcz54_1
      try clear hfz54_0
      try clear hfz54_1
      try clear hx131_0
      try clear hx131_1
      try clear hx131_2
      try clear hx131_3
      try clear p131
      try clear q131
      obtain ⟨x6_2, rfl, HA, HK2, BK130, HB⟩ := hrel
      cases gk with
      | zero => exact absurd HA.out (by simp [quernref13_Refuse.l1])
      | succ k2 =>
       have H := HA.out
       clear HA
       simp only [quernref13_Refuse.l1] at H
       by_cases c56 : x6_2 < (l0.length : Int)
       ·rw [if_pos c56] at H
        have c56b0 : decide (x6_2 < (l0.length : Int)) = true := decide_eq_true c56
        clear c56
        have H' := Aside0.mk H
        clear H
        go_wp2
        go_loopg [7] k2 (fun kq v7 w' => ∃ (x7_3 : Int), v7 = .int .i64 x7_3 ∧ Aside0 (quernref13_Refuse.l2 kq l0 x6_2 x7_3 = some r) ∧ Aside0 (kq ≤ k2) ∧ Aside0 (w'.heap[gb130]? = some (.cells #[.int .i64 a1_0, .int .i64 a1_1] 24 (0, 0))) ∧ Aside0 (Below w.heap.size w w'))
        case atStart => exact ⟨(0), (by first | rfl | (simp; done) | (simp [*]; done)), H', ⟨Nat.le_refl _⟩, ⟨by (with_reducible repeat (first | refine blk_drewN ?_ _ | refine blk_drew ?_ | refine blk_alloc ?_ _)); exact BK130.out⟩, ⟨by repeat (first | (with_reducible first | exact HB.out | apply below_alloc | apply pw_below_drewN | apply below_drew1 | refine below_set ?_ GE130.out) | exact HB.out)⟩⟩
        case round =>
         clear H'
         try clear p1
         try clear q1
         try clear hx1
         try clear p2
         try clear c3
         try clear c4
         try clear c4b0
         try clear c5
         try clear c7
         try clear p13
         try clear q13
         try clear hx13
         try clear c35
         try clear c53
         try clear c56
         try clear c56b0
         try clear hcz54_0
         try clear hcz54_1
         try clear hfz54_0
         try clear hfz54_1
         try clear hx131_0
         try clear hx131_1
         try clear hx131_2
         try clear hx131_3
         try clear p1
         try clear p13
         try clear p131
         try clear p2
         try clear q1
         try clear q13
         try clear q131
         obtain ⟨x7_3, rfl, HA, HK3, BK130, HB⟩ := hrel
         cases gk with
         | zero => exact absurd HA.out (by simp [quernref13_Refuse.l2])
         | succ k3 =>
          have H := HA.out
          clear HA
          simp only [quernref13_Refuse.l2] at H
          by_cases c57 : x7_3 < x6_2
          ·rw [if_pos c57] at H
           have c57b0 : decide (x7_3 < x6_2) = true := decide_eq_true c57
           clear c57
           by_cases c58 : 0 ≤ x6_2
           ·rw [if_pos c58] at H
            have c58b0 : decide (0 ≤ x6_2) = true := decide_eq_true c58
            clear c58
            by_cases c59 : x6_2 < (l0.length : Int)
            ·rw [if_pos c59] at H
             have c59b0 : decide (x6_2 < (l0.length : Int)) = true := decide_eq_true c59
             clear c59
             by_cases c60 : 0 ≤ x7_3
             ·rw [if_pos c60] at H
              have c60b0 : decide (0 ≤ x7_3) = true := decide_eq_true c60
              clear c60
              by_cases c61 : x7_3 < (l0.length : Int)
              ·rw [if_pos c61] at H
               have c61b0 : decide (x7_3 < (l0.length : Int)) = true := decide_eq_true c61
               clear c61
               replace H := Option.bind_eq_some_iff.mp H
               obtain ⟨t147, A620, H⟩ := H
               replace H : (if t147 = true then (some 130) else (quernref13_Refuse.l2 k3 l0 x6_2 (wrap64 (x7_3 + 1)))) = some r := H
               have A62 := Aside0.mk A620
               clear A620
               by_cases c63 : t147 = true
               ·subst c63
                have H1 : (some 130) = some r := by rw [if_pos rfl] at H; exact H
                clear H
                have H := H1
                clear H1
                obtain rfl := Option.some.inj H
                try go_wp2
                have n0_ := Aside0.mk (blk_drew BK130.out)
                have n1_ := Aside0.mk (below_drew1 HB.out)
                clear BK130
                clear HB
                have BK130 := n0_
                have HB := n1_
                clear n0_ n1_
                have p145 : 0 ≤ (x6_2 : Int) := of_decide_eq_true (by first | (with_reducible assumption) | assumption)
                have q145 : x6_2 < (l0.length : Int) := of_decide_eq_true (by first | (with_reducible assumption) | assumption)
                obtain ⟨ad145, e145, hx145_0, hx145_1, hx145_2, hx145_3⟩ := at_T36 HR0.out x6_2 p145 q145
                have hw145_3 := hx145_3
                have hw145_2 := hx145_2
                have hw145_1 := hx145_1
                have hw145_0 := hx145_0
                cases e145
                replace hx145_0 := cellA HB hx145_0
                replace hx145_1 := cellA HB hx145_1
                replace hx145_2 := cellA HB hx145_2
                replace hx145_3 := cellA HB hx145_3
                replace p145 := eq_true p145
                replace q145 := eq_true q145
                have p146 : 0 ≤ (x7_3 : Int) := of_decide_eq_true (by first | (with_reducible assumption) | assumption)
                have q146 : x7_3 < (l0.length : Int) := of_decide_eq_true (by first | (with_reducible assumption) | assumption)
                obtain ⟨ad146, e146, hx146_0, hx146_1, hx146_2, hx146_3⟩ := at_T36 HR0.out x7_3 p146 q146
                have hw146_3 := hx146_3
                have hw146_2 := hx146_2
                have hw146_1 := hx146_1
                have hw146_0 := hx146_0
                obtain rfl : ad145 = ad146 := (by injection e146)
                replace hx146_0 := cellA HB hx146_0
                replace hx146_1 := cellA HB hx146_1
                replace hx146_2 := cellA HB hx146_2
                replace hx146_3 := cellA HB hx146_3
                replace p146 := eq_true p146
                replace q146 := eq_true q146
                refine start_ (n := 11) (S := fun w' => w'.cell? (ad145.add ((x6_2).toNat * 4)) = some (.int .i64 ((rd_T36 l0 x6_2).f0.f0)) ∧ w'.cell? ⟨(ad145.add ((x6_2).toNat * 4)).block, (ad145.add ((x6_2).toNat * 4)).off + 1, none⟩ = some (.int .i64 ((rd_T36 l0 x6_2).f0.f1)) ∧ w'.cell? ⟨(ad145.add ((x6_2).toNat * 4)).block, (ad145.add ((x6_2).toNat * 4)).off + 2, none⟩ = some (.int .i64 ((rd_T36 l0 x6_2).f1.f0)) ∧ w'.cell? ⟨(ad145.add ((x6_2).toNat * 4)).block, (ad145.add ((x6_2).toNat * 4)).off + 3, none⟩ = some (.int .i64 ((rd_T36 l0 x6_2).f1.f1)) ∧ w'.cell? (ad145.add ((x7_3).toNat * 4)) = some (.int .i64 ((rd_T36 l0 x7_3).f0.f0)) ∧ w'.cell? ⟨(ad145.add ((x7_3).toNat * 4)).block, (ad145.add ((x7_3).toNat * 4)).off + 1, none⟩ = some (.int .i64 ((rd_T36 l0 x7_3).f0.f1)) ∧ w'.cell? ⟨(ad145.add ((x7_3).toNat * 4)).block, (ad145.add ((x7_3).toNat * 4)).off + 2, none⟩ = some (.int .i64 ((rd_T36 l0 x7_3).f1.f0)) ∧ w'.cell? ⟨(ad145.add ((x7_3).toNat * 4)).block, (ad145.add ((x7_3).toNat * 4)).off + 3, none⟩ = some (.int .i64 ((rd_T36 l0 x7_3).f1.f1))) (ds := []) (bl 0 11) (by kernel_rfl) rfl rfl ⟨(cellA HB hw145_0), (cellA HB hw145_1), (cellA HB hw145_2), (cellA HB hw145_3), (cellA HB hw146_0), (cellA HB hw146_1), (cellA HB hw146_2), (cellA HB hw146_3)⟩ (fun hHeld => ?_); refine with_tabW quernref13_Refuse.tab14 quernref13_Refuse.bits14 (fun HT_ HW_ => ?_)
                generalize wr.drew = w64 at BK130 HB hx145_0 hx145_1 hx145_2 hx145_3 hx146_0 hx146_1 hx146_2 hx146_3 hHeld ⊢
                refine pure_ (i := 0) (N := some 71) (v := ?_) (a' := ?_) (bl 1 11) rfl rfl (any_of HT_.out (by kernel_rfl)) (fun _ _ _ h => h) (Or.inl ⟨by rfl, ?_⟩) ?_ ?_
                rotate_left
                ·intro w'
                 go_simp
                 with_reducible rfl
                rotate_left
                ·simp only [Act.put, List.setIfInBounds_toArray, List.set_cons_zero, List.set_cons_succ, i64_w, i32_w]
                 rfl
                refine pure_ (i := 1) (N := some 72) (v := ?_) (a' := ?_) (bl 2 11) rfl rfl (any_of HT_.out (by kernel_rfl)) (fun _ _ _ h => h) (Or.inl ⟨by rfl, ?_⟩) ?_ ?_
                rotate_left
                ·intro w'
                 go_simp
                 with_reducible rfl
                rotate_left
                ·simp only [Act.put, List.setIfInBounds_toArray, List.set_cons_zero, List.set_cons_succ, i64_w, i32_w]
                 rfl
                refine pure_ (i := 2) (N := some 73) (v := ?_) (a' := ?_) (bl 3 11) rfl rfl (any_of HT_.out (by kernel_rfl)) (fun _ _ _ h => h) (Or.inl ⟨by rfl, ?_⟩) ?_ ?_
                rotate_left
                ·intro w'
                 go_simp
                 with_reducible rfl
                rotate_left
                ·simp only [Act.put, List.setIfInBounds_toArray, List.set_cons_zero, List.set_cons_succ, i64_w, i32_w]
                 rfl
                refine pure_ (i := 3) (N := some 74) (v := ?_) (a' := ?_) (bl 4 11) rfl rfl (any_of HT_.out (by kernel_rfl)) (fun _ _ _ h => h) (Or.inl ⟨by rfl, ?_⟩) ?_ ?_
                rotate_left
                ·intro w'
                 go_simp
                 with_reducible rfl
                rotate_left
                ·simp only [Act.put, List.setIfInBounds_toArray, List.set_cons_zero, List.set_cons_succ, i64_w, i32_w]
                 rfl
                refine pure_ (i := 5) (N := some 76) (v := ?_) (a' := ?_) #[true, true, true, true, false, true, false, false, false, false, false] rfl rfl (any_of HT_.out (by kernel_rfl)) (fun _ _ _ h => h) (Or.inl ⟨by rfl, ?_⟩) ?_ ?_
                rotate_left
                ·intro w'
                 go_simp
                 with_reducible rfl
                rotate_left
                ·simp only [Act.put, List.setIfInBounds_toArray, List.set_cons_zero, List.set_cons_succ, i64_w, i32_w]
                 rfl
                refine pure_ (i := 6) (N := some 77) (v := ?_) (a' := ?_) #[true, true, true, true, false, true, true, false, false, false, false] rfl rfl (any_of HT_.out (by kernel_rfl)) (fun _ _ _ h => h) (Or.inl ⟨by rfl, ?_⟩) ?_ ?_
                rotate_left
                ·intro w'
                 go_simp
                 with_reducible rfl
                rotate_left
                ·simp only [Act.put, List.setIfInBounds_toArray, List.set_cons_zero, List.set_cons_succ, i64_w, i32_w]
                 rfl
                refine pure_ (i := 7) (N := some 78) (v := ?_) (a' := ?_) #[true, true, true, true, false, true, true, true, false, false, false] rfl rfl (any_of HT_.out (by kernel_rfl)) (fun _ _ _ h => h) (Or.inl ⟨by rfl, ?_⟩) ?_ ?_
                rotate_left
                ·intro w'
                 go_simp
                 with_reducible rfl
                rotate_left
                ·simp only [Act.put, List.setIfInBounds_toArray, List.set_cons_zero, List.set_cons_succ, i64_w, i32_w]
                 rfl
                refine pure_ (i := 8) (N := some 79) (v := ?_) (a' := ?_) #[true, true, true, true, false, true, true, true, true, false, false] rfl rfl (any_of HT_.out (by kernel_rfl)) (fun _ _ _ h => h) (Or.inl ⟨by rfl, ?_⟩) ?_ ?_
                rotate_left
                ·intro w'
                 go_simp
                 with_reducible rfl
                rotate_left
                ·simp only [Act.put, List.setIfInBounds_toArray, List.set_cons_zero, List.set_cons_succ, i64_w, i32_w]
                 rfl
                refine take_ (i := 4) (N := some 75) (v := ?_) (a' := ?_) (bl 9 11) rfl rfl (take_ofW HT_.out HW_.out (by kernel_rfl)) (fun _ _ _ h => h) (Or.inl ⟨by rfl, ?_⟩) hHeld ?_ ?_
                rotate_left
                ·rintro w' ⟨s0, s1, s2, s3, s4, s5, s6, s7⟩
                 go_simp
                 with_reducible rfl
                rotate_left
                ·simp only [Act.put, List.setIfInBounds_toArray, List.set_cons_zero, List.set_cons_succ, i64_w, i32_w]
                 rfl
                refine take_ (i := 9) (N := some 80) (v := ?_) (a' := ?_) (bl 10 11) rfl rfl (take_ofW HT_.out HW_.out (by kernel_rfl)) (fun _ _ _ h => h) (Or.inl ⟨by rfl, ?_⟩) hHeld ?_ ?_
                rotate_left
                ·rintro w' ⟨s0, s1, s2, s3, s4, s5, s6, s7⟩
                 go_simp
                 with_reducible rfl
                rotate_left
                ·simp only [Act.put, List.setIfInBounds_toArray, List.set_cons_zero, List.set_cons_succ, i64_w, i32_w]
                 rfl
                refine one_ (i := 10) (N := some 81) (bl 11 11) rfl rfl (one_of HT_.out (by kernel_rfl)) (by decide) (fun K hK => ?_)
                refine goes_ Try.func27 (by kernel_rfl) rfl #[.agg #[.int .i64 ((rd_T36 l0 x6_2).f0.f0), .int .i64 ((rd_T36 l0 x6_2).f0.f1)], .agg #[.int .i64 ((rd_T36 l0 x7_3).f0.f0), .int .i64 ((rd_T36 l0 x7_3).f0.f1)]] (by rfl) rfl rfl (by (try simp only [List.map_toArray, List.map_cons, List.map_nil]); first | done | rfl | (simp only [List.length_drop, List.length_take]; rfl)) ?_
                with_reducible refine (quernref13_Same.calls ((rd_T36 l0 x6_2).f0.f0) ((rd_T36 l0 x6_2).f0.f1) ((rd_T36 l0 x7_3).f0.f0) ((rd_T36 l0 x7_3).f0.f1) true _ A62.out).mono ?_
                rintro e w65 ⟨rfl, hb⟩
                refine ⟨_, rfl, ?_⟩
                have n0_ := Aside0.mk (blk_below (g := gb130) (o := .cells #[.int .i64 a1_0, .int .i64 a1_1] 24 (0, 0)) (by (with_reducible repeat (first | refine blk_drewN ?_ _ | refine blk_drew ?_ | refine blk_alloc ?_ _)); exact BK130.out) hb)
                have n1_ := Aside0.mk (below_step (by repeat (first | (with_reducible first | exact HB.out | apply below_alloc | apply pw_below_drewN | apply below_drew1 | refine below_set ?_ GE130.out) | exact HB.out)) hb)
                clear BK130
                clear HB
                have BK130 := n0_
                have HB := n1_
                clear n0_ n1_
                (try clear hb)
                (try clear hb2)
                (try clear hk)
                (try clear hi)
                refine hK.out _ _ ⟨(cellA HB hw145_0), (cellA HB hw145_1), (cellA HB hw145_2), (cellA HB hw145_3), (cellA HB hw146_0), (cellA HB hw146_1), (cellA HB hw146_2), (cellA HB hw146_3)⟩ (fun hHeld => ?_)
                clear hK K
                refine norm_ (a' := ?_) ?_ ?_
                rotate_left
                ·show Act.put _ (some 81) _ = _
                 simp only [Act.put, List.setIfInBounds_toArray, List.set_cons_zero, List.set_cons_succ, i64_w, i32_w]
                 rfl
                refine done_ (done_of HT_.out (by kernel_rfl)) ?_
                try go_wp2
                go_ret
                exact ⟨by first | rfl | (simp [errW_none, errW_some] <;> rfl) | (simp [*, errW_none, errW_some] <;> rfl), by repeat (first | (with_reducible first | exact HB.out | apply below_alloc | apply pw_below_drewN | apply below_drew1 | refine below_set ?_ GE130.out) | exact HB.out)⟩
               ·replace c63 := Bool.eq_false_iff.mpr c63
                subst c63
                have H1 : (quernref13_Refuse.l2 k3 l0 x6_2 (wrap64 (x7_3 + 1))) = some r := by rw [if_neg (show ¬ (false = true) by decide)] at H; exact H
                clear H
                have H := H1
                clear H1
                have H' := Aside0.mk H
                clear H
                try go_wp2
                have n0_ := Aside0.mk (blk_drew BK130.out)
                have n1_ := Aside0.mk (below_drew1 HB.out)
                clear BK130
                clear HB
                have BK130 := n0_
                have HB := n1_
                clear n0_ n1_
                have p145 : 0 ≤ (x6_2 : Int) := of_decide_eq_true (by first | (with_reducible assumption) | assumption)
                have q145 : x6_2 < (l0.length : Int) := of_decide_eq_true (by first | (with_reducible assumption) | assumption)
                obtain ⟨ad145, e145, hx145_0, hx145_1, hx145_2, hx145_3⟩ := at_T36 HR0.out x6_2 p145 q145
                have hw145_3 := hx145_3
                have hw145_2 := hx145_2
                have hw145_1 := hx145_1
                have hw145_0 := hx145_0
                cases e145
                replace hx145_0 := cellA HB hx145_0
                replace hx145_1 := cellA HB hx145_1
                replace hx145_2 := cellA HB hx145_2
                replace hx145_3 := cellA HB hx145_3
                replace p145 := eq_true p145
                replace q145 := eq_true q145
                have p146 : 0 ≤ (x7_3 : Int) := of_decide_eq_true (by first | (with_reducible assumption) | assumption)
                have q146 : x7_3 < (l0.length : Int) := of_decide_eq_true (by first | (with_reducible assumption) | assumption)
                obtain ⟨ad146, e146, hx146_0, hx146_1, hx146_2, hx146_3⟩ := at_T36 HR0.out x7_3 p146 q146
                have hw146_3 := hx146_3
                have hw146_2 := hx146_2
                have hw146_1 := hx146_1
                have hw146_0 := hx146_0
                obtain rfl : ad145 = ad146 := (by injection e146)
                replace hx146_0 := cellA HB hx146_0
                replace hx146_1 := cellA HB hx146_1
                replace hx146_2 := cellA HB hx146_2
                replace hx146_3 := cellA HB hx146_3
                replace p146 := eq_true p146
                replace q146 := eq_true q146
                refine start_ (n := 11) (S := fun w' => w'.cell? (ad145.add ((x6_2).toNat * 4)) = some (.int .i64 ((rd_T36 l0 x6_2).f0.f0)) ∧ w'.cell? ⟨(ad145.add ((x6_2).toNat * 4)).block, (ad145.add ((x6_2).toNat * 4)).off + 1, none⟩ = some (.int .i64 ((rd_T36 l0 x6_2).f0.f1)) ∧ w'.cell? ⟨(ad145.add ((x6_2).toNat * 4)).block, (ad145.add ((x6_2).toNat * 4)).off + 2, none⟩ = some (.int .i64 ((rd_T36 l0 x6_2).f1.f0)) ∧ w'.cell? ⟨(ad145.add ((x6_2).toNat * 4)).block, (ad145.add ((x6_2).toNat * 4)).off + 3, none⟩ = some (.int .i64 ((rd_T36 l0 x6_2).f1.f1)) ∧ w'.cell? (ad145.add ((x7_3).toNat * 4)) = some (.int .i64 ((rd_T36 l0 x7_3).f0.f0)) ∧ w'.cell? ⟨(ad145.add ((x7_3).toNat * 4)).block, (ad145.add ((x7_3).toNat * 4)).off + 1, none⟩ = some (.int .i64 ((rd_T36 l0 x7_3).f0.f1)) ∧ w'.cell? ⟨(ad145.add ((x7_3).toNat * 4)).block, (ad145.add ((x7_3).toNat * 4)).off + 2, none⟩ = some (.int .i64 ((rd_T36 l0 x7_3).f1.f0)) ∧ w'.cell? ⟨(ad145.add ((x7_3).toNat * 4)).block, (ad145.add ((x7_3).toNat * 4)).off + 3, none⟩ = some (.int .i64 ((rd_T36 l0 x7_3).f1.f1))) (ds := []) (bl 0 11) (by kernel_rfl) rfl rfl ⟨(cellA HB hw145_0), (cellA HB hw145_1), (cellA HB hw145_2), (cellA HB hw145_3), (cellA HB hw146_0), (cellA HB hw146_1), (cellA HB hw146_2), (cellA HB hw146_3)⟩ (fun hHeld => ?_); refine with_tabW quernref13_Refuse.tab14 quernref13_Refuse.bits14 (fun HT_ HW_ => ?_)
                generalize wr.drew = w66 at BK130 HB hx145_0 hx145_1 hx145_2 hx145_3 hx146_0 hx146_1 hx146_2 hx146_3 hHeld ⊢
                refine pure_ (i := 0) (N := some 71) (v := ?_) (a' := ?_) (bl 1 11) rfl rfl (any_of HT_.out (by kernel_rfl)) (fun _ _ _ h => h) (Or.inl ⟨by rfl, ?_⟩) ?_ ?_
                rotate_left
                ·intro w'
                 go_simp
                 with_reducible rfl
                rotate_left
                ·simp only [Act.put, List.setIfInBounds_toArray, List.set_cons_zero, List.set_cons_succ, i64_w, i32_w]
                 rfl
                refine pure_ (i := 1) (N := some 72) (v := ?_) (a' := ?_) (bl 2 11) rfl rfl (any_of HT_.out (by kernel_rfl)) (fun _ _ _ h => h) (Or.inl ⟨by rfl, ?_⟩) ?_ ?_
                rotate_left
                ·intro w'
                 go_simp
                 with_reducible rfl
                rotate_left
                ·simp only [Act.put, List.setIfInBounds_toArray, List.set_cons_zero, List.set_cons_succ, i64_w, i32_w]
                 rfl
                refine pure_ (i := 2) (N := some 73) (v := ?_) (a' := ?_) (bl 3 11) rfl rfl (any_of HT_.out (by kernel_rfl)) (fun _ _ _ h => h) (Or.inl ⟨by rfl, ?_⟩) ?_ ?_
                rotate_left
                ·intro w'
                 go_simp
                 with_reducible rfl
                rotate_left
                ·simp only [Act.put, List.setIfInBounds_toArray, List.set_cons_zero, List.set_cons_succ, i64_w, i32_w]
                 rfl
                refine pure_ (i := 3) (N := some 74) (v := ?_) (a' := ?_) (bl 4 11) rfl rfl (any_of HT_.out (by kernel_rfl)) (fun _ _ _ h => h) (Or.inl ⟨by rfl, ?_⟩) ?_ ?_
                rotate_left
                ·intro w'
                 go_simp
                 with_reducible rfl
                rotate_left
                ·simp only [Act.put, List.setIfInBounds_toArray, List.set_cons_zero, List.set_cons_succ, i64_w, i32_w]
                 rfl
                refine pure_ (i := 5) (N := some 76) (v := ?_) (a' := ?_) #[true, true, true, true, false, true, false, false, false, false, false] rfl rfl (any_of HT_.out (by kernel_rfl)) (fun _ _ _ h => h) (Or.inl ⟨by rfl, ?_⟩) ?_ ?_
                rotate_left
                ·intro w'
                 go_simp
                 with_reducible rfl
                rotate_left
                ·simp only [Act.put, List.setIfInBounds_toArray, List.set_cons_zero, List.set_cons_succ, i64_w, i32_w]
                 rfl
                refine pure_ (i := 6) (N := some 77) (v := ?_) (a' := ?_) #[true, true, true, true, false, true, true, false, false, false, false] rfl rfl (any_of HT_.out (by kernel_rfl)) (fun _ _ _ h => h) (Or.inl ⟨by rfl, ?_⟩) ?_ ?_
                rotate_left
                ·intro w'
                 go_simp
                 with_reducible rfl
                rotate_left
                ·simp only [Act.put, List.setIfInBounds_toArray, List.set_cons_zero, List.set_cons_succ, i64_w, i32_w]
                 rfl
                refine pure_ (i := 7) (N := some 78) (v := ?_) (a' := ?_) #[true, true, true, true, false, true, true, true, false, false, false] rfl rfl (any_of HT_.out (by kernel_rfl)) (fun _ _ _ h => h) (Or.inl ⟨by rfl, ?_⟩) ?_ ?_
                rotate_left
                ·intro w'
                 go_simp
                 with_reducible rfl
                rotate_left
                ·simp only [Act.put, List.setIfInBounds_toArray, List.set_cons_zero, List.set_cons_succ, i64_w, i32_w]
                 rfl
                refine pure_ (i := 8) (N := some 79) (v := ?_) (a' := ?_) #[true, true, true, true, false, true, true, true, true, false, false] rfl rfl (any_of HT_.out (by kernel_rfl)) (fun _ _ _ h => h) (Or.inl ⟨by rfl, ?_⟩) ?_ ?_
                rotate_left
                ·intro w'
                 go_simp
                 with_reducible rfl
                rotate_left
                ·simp only [Act.put, List.setIfInBounds_toArray, List.set_cons_zero, List.set_cons_succ, i64_w, i32_w]
                 rfl
                refine take_ (i := 4) (N := some 75) (v := ?_) (a' := ?_) (bl 9 11) rfl rfl (take_ofW HT_.out HW_.out (by kernel_rfl)) (fun _ _ _ h => h) (Or.inl ⟨by rfl, ?_⟩) hHeld ?_ ?_
                rotate_left
                ·rintro w' ⟨s0, s1, s2, s3, s4, s5, s6, s7⟩
                 go_simp
                 with_reducible rfl
                rotate_left
                ·simp only [Act.put, List.setIfInBounds_toArray, List.set_cons_zero, List.set_cons_succ, i64_w, i32_w]
                 rfl
                refine take_ (i := 9) (N := some 80) (v := ?_) (a' := ?_) (bl 10 11) rfl rfl (take_ofW HT_.out HW_.out (by kernel_rfl)) (fun _ _ _ h => h) (Or.inl ⟨by rfl, ?_⟩) hHeld ?_ ?_
                rotate_left
                ·rintro w' ⟨s0, s1, s2, s3, s4, s5, s6, s7⟩
                 go_simp
                 with_reducible rfl
                rotate_left
                ·simp only [Act.put, List.setIfInBounds_toArray, List.set_cons_zero, List.set_cons_succ, i64_w, i32_w]
                 rfl
                refine one_ (i := 10) (N := some 81) (bl 11 11) rfl rfl (one_of HT_.out (by kernel_rfl)) (by decide) (fun K hK => ?_)
                refine goes_ Try.func27 (by kernel_rfl) rfl #[.agg #[.int .i64 ((rd_T36 l0 x6_2).f0.f0), .int .i64 ((rd_T36 l0 x6_2).f0.f1)], .agg #[.int .i64 ((rd_T36 l0 x7_3).f0.f0), .int .i64 ((rd_T36 l0 x7_3).f0.f1)]] (by rfl) rfl rfl (by (try simp only [List.map_toArray, List.map_cons, List.map_nil]); first | done | rfl | (simp only [List.length_drop, List.length_take]; rfl)) ?_
                with_reducible refine (quernref13_Same.calls ((rd_T36 l0 x6_2).f0.f0) ((rd_T36 l0 x6_2).f0.f1) ((rd_T36 l0 x7_3).f0.f0) ((rd_T36 l0 x7_3).f0.f1) false _ A62.out).mono ?_
                rintro e w67 ⟨rfl, hb⟩
                refine ⟨_, rfl, ?_⟩
                have n0_ := Aside0.mk (blk_below (g := gb130) (o := .cells #[.int .i64 a1_0, .int .i64 a1_1] 24 (0, 0)) (by (with_reducible repeat (first | refine blk_drewN ?_ _ | refine blk_drew ?_ | refine blk_alloc ?_ _)); exact BK130.out) hb)
                have n1_ := Aside0.mk (below_step (by repeat (first | (with_reducible first | exact HB.out | apply below_alloc | apply pw_below_drewN | apply below_drew1 | refine below_set ?_ GE130.out) | exact HB.out)) hb)
                clear BK130
                clear HB
                have BK130 := n0_
                have HB := n1_
                clear n0_ n1_
                (try clear hb)
                (try clear hb2)
                (try clear hk)
                (try clear hi)
                refine hK.out _ _ ⟨(cellA HB hw145_0), (cellA HB hw145_1), (cellA HB hw145_2), (cellA HB hw145_3), (cellA HB hw146_0), (cellA HB hw146_1), (cellA HB hw146_2), (cellA HB hw146_3)⟩ (fun hHeld => ?_)
                clear hK K
                refine norm_ (a' := ?_) ?_ ?_
                rotate_left
                ·show Act.put _ (some 81) _ = _
                 simp only [Act.put, List.setIfInBounds_toArray, List.set_cons_zero, List.set_cons_succ, i64_w, i32_w]
                 rfl
                refine done_ (done_of HT_.out (by kernel_rfl)) ?_
                try go_wp2
                go_roundg k3
                case measure => have := HK1.out; have := HK2.out; have := HK3.out; omega
                case rel => exact ⟨(wrap64 (x7_3 + 1)), (by first | rfl | (simp; done) | (simp [*]; done)), H', ⟨by have := HK1.out; have := HK2.out; have := HK3.out; omega⟩, ⟨by (with_reducible repeat (first | refine blk_drewN ?_ _ | refine blk_drew ?_ | refine blk_alloc ?_ _)); exact BK130.out⟩, ⟨by repeat (first | (with_reducible first | exact HB.out | apply below_alloc | apply pw_below_drewN | apply below_drew1 | refine below_set ?_ GE130.out) | exact HB.out)⟩⟩
              ·rw [if_neg c61] at H
               exact absurd H (by simp)
             ·rw [if_neg c60] at H
              exact absurd H (by simp)
            ·rw [if_neg c59] at H
             exact absurd H (by simp)
           ·rw [if_neg c58] at H
            exact absurd H (by simp)
          ·rw [if_neg c57] at H
           have c57b0 : decide (x7_3 < x6_2) = false := decide_eq_false c57
           clear c57
           have H' := Aside0.mk H
           clear H
           go_wp2
           go_roundg k3
           case measure => have := HK1.out; have := HK2.out; have := HK3.out; omega
           case rel => exact ⟨(wrap64 (x6_2 + 1)), (by first | rfl | (simp; done) | (simp [*]; done)), H', ⟨by have := HK1.out; have := HK2.out; have := HK3.out; omega⟩, ⟨by (with_reducible repeat (first | refine blk_drewN ?_ _ | refine blk_drew ?_ | refine blk_alloc ?_ _)); exact BK130.out⟩, ⟨by repeat (first | (with_reducible first | exact HB.out | apply below_alloc | apply pw_below_drewN | apply below_drew1 | refine below_set ?_ GE130.out) | exact HB.out)⟩⟩
       ·rw [if_neg c56] at H
        have c56b0 : decide (x6_2 < (l0.length : Int)) = false := decide_eq_false c56
        clear c56
        obtain rfl := Option.some.inj H
        go_wp2
        go_ret
        exact ⟨by first | rfl | (simp [errW_none, errW_some] <;> rfl) | (simp [*, errW_none, errW_some] <;> rfl), by repeat (first | (with_reducible first | exact HB.out | apply below_alloc | apply pw_below_drewN | apply below_drew1 | refine below_set ?_ GE130.out) | exact HB.out)⟩
    ·replace c53 := Bool.eq_false_iff.mpr c53
     subst c53
     have H1 : (some 131) = some r := by rw [if_neg (show ¬ (false = true) by decide)] at H; exact H
     clear H
     have H := H1
     clear H1
     obtain rfl := Option.some.inj H
     have hcz68_0 : wr.cell? ⟨gb130, 0, none⟩ = some (.int .i64 a1_0) := (blk_cell BK130.out 0).trans rfl
     have hcz68_1 : wr.cell? ⟨gb130, 1, none⟩ = some (.int .i64 a1_1) := (blk_cell BK130.out 1).trans rfl
     have hfz68_0 := blk_frozen BK130.out 0
     have hfz68_1 := blk_frozen BK130.out 1
     go_wp2_with (first | ((with_reducible refine gate_callee (f := 35) rfl ?_); refine goesL_ (some 58) rfl rfl Try.func35 (by kernel_rfl) rfl #[.agg #[.int .i64 a1_0, .int .i64 a1_1]] rfl (by (try simp only [List.map_toArray, List.map_cons, List.map_nil]); first | done | rfl | (simp only [List.length_drop, List.length_take]; rfl)) ?_; (with_reducible refine (quernref13_Place.calls a1_0 a1_1 false _ A52.out).mono ?_); rintro e w69 ⟨rfl, hb⟩; refine ⟨_, rfl, ?_⟩; have n0_ := Aside0.mk (blk_below (g := gb130) (o := .cells #[.int .i64 a1_0, .int .i64 a1_1] 24 (0, 0)) (by (with_reducible repeat (first | refine blk_drewN ?_ _ | refine blk_drew ?_ | refine blk_alloc ?_ _)); exact BK130.out) hb); have n1_ := Aside0.mk (below_step (by repeat (first | (with_reducible first | exact HB.out | apply below_alloc | apply pw_below_drewN | apply below_drew1 | refine below_set ?_ GE130.out) | exact HB.out)) hb); clear BK130; clear HB; have BK130 := n0_; have HB := n1_; clear n0_ n1_; (try clear hb); (try clear hb2); (try clear hk); (try clear hi)))
     go_ret
     exact ⟨by first | rfl | (simp [errW_none, errW_some] <;> rfl) | (simp [*, errW_none, errW_some] <;> rfl), by repeat (first | (with_reducible first | exact HB.out | apply below_alloc | apply pw_below_drewN | apply below_drew1 | refine below_set ?_ GE130.out) | exact HB.out)⟩

end Go.Proofs.Ytameoapnhmoleaa.PP
