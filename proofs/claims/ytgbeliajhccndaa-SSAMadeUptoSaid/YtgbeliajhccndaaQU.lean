/- Lemmas of this claim (PP4). -/
import Derived.Test.YtgbeliajhccndaaQF
namespace Go.Proofs.Ytgbeliajhccndaa.PP
open Go.RowKit Go.Proofs.YtgbeliajhccndaaW.PrintWords Go.Proofs.YtgbeliajhccndaaW.PrintLast Go.Proofs.YtgbeliajhccndaaW.PrintMore
attribute [local go_sem] max2_int min2_int max_two min_two max_three min_three max_four min_four   
set_option linter.unusedVariables false
set_option linter.unusedSimpArgs false
def quernlaw9_numbers.l0 : Nat → List Int → Int → Int → Option (Bool)
 | 0, _, _, _ => none
 | k + 1, x0, x1, x5 => if x5 < (x0.length : Int) then (if 0 ≤ x5 then (if (rd x0 x5) < 0 then (some false) else (if (rd x0 x5) ≥ x1 then (some false) else (quernlaw9_numbers.l0 k x0 x1 (wrap64 (x5 + 1))))) else (none)) else (some true)
def quernlaw9_numbers.f (k : Nat) (l0 : List Int) (a1 : Int) : Option (Bool) := quernlaw9_numbers.l0 k l0 a1 0
theorem quernlaw9_numbers.mono_l : ∀ k, (∀ y0 y1 y2, LeO (quernlaw9_numbers.l0 k y0 y1 y2) (quernlaw9_numbers.l0 (k + 1) y0 y1 y2))
 | 0 => fun _ _ _ r h => by simp [quernlaw9_numbers.l0] at h
 | k + 1 => by
  have ih0 := quernlaw9_numbers.mono_l k
  ·intro y0 y1 y2
   unfold quernlaw9_numbers.l0
   repeat' first
   | (with_reducible exact ih0 _ _ _)
   | (with_reducible exact LeO.refl _)
   | (with_reducible exact LeO.none _)
   | (with_reducible refine LeO.ite ?_ ?_)
   | (with_reducible refine LeO.bind ?_ (fun _ => ?_))
   | exact ih0 _ _ _
   | exact LeO.none _
   | refine LeO.ite ?_ ?_
   | refine LeO.bind ?_ (fun _ => ?_)
theorem quernlaw9_numbers.mono : ∀ a0 a1 k, LeO (quernlaw9_numbers.f k a0 a1) (quernlaw9_numbers.f (k + 1) a0 a1) := by
 intro a0 a1 k
 have ih0 := quernlaw9_numbers.mono_l k
 unfold quernlaw9_numbers.f
 repeat' first
   | (with_reducible exact ih0 _ _ _)
   | (with_reducible exact LeO.refl _)
   | (with_reducible exact LeO.none _)
   | (with_reducible refine LeO.ite ?_ ?_)
   | (with_reducible refine LeO.bind ?_ (fun _ => ?_))
   | exact ih0 _ _ _
   | exact LeO.none _
   | refine LeO.ite ?_ ?_
   | refine LeO.bind ?_ (fun _ => ?_)
set_option maxHeartbeats 8000000 in
set_option maxRecDepth 100000 in
theorem quernlaw9_numbers.calls (k : Nat) (A0 : Option Addr) (c0 : Nat) (l0 : List Int) (a1 : Int) (r : Bool) (w : World) (hr0 : Kd.C (Kd.int .i64) w A0 l0.length l0) (hc0 : l0.length ≤ c0) (h : quernlaw9_numbers.f k l0 a1 = some r) :
  Calls Try.prog 15 #[.slice A0 l0.length c0, .int .i64 a1] w fun e w' => e = .returned (.bool r) ∧ Drawn0 w w' := by
 have HR0 := Aside0.mk hr0
 have HC0 := Aside0.mk hc0
 clear hr0 hc0
 have H : (quernlaw9_numbers.l0 k l0 a1 0) = some r := h
 clear h
 have H' := Aside0.mk H
 clear H
 go_enter Try.func15, Try.ntmps15
 go_wp2
 go_loopg [5] k (fun kq v5 w' => ∃ (x5_1 : Int), v5 = .int .i64 x5_1 ∧ Aside0 (quernlaw9_numbers.l0 kq l0 a1 x5_1 = some r) ∧ Aside0 (kq ≤ k) ∧ Drawn0 w w')
 case atStart => exact ⟨(0), (by first | rfl | (simp; done) | (simp [*]; done)), H', ⟨Nat.le_refl _⟩, by repeat (first | exact Drawn0.refl _ | apply Drawn0.step)⟩
 case round =>
  clear H'
  try clear c1
  try clear p2
  obtain ⟨x5_1, rfl, HA, HK1, ⟨m1, rfl⟩⟩ := hrel
  cases gk with
  | zero => exact absurd HA.out (by simp [quernlaw9_numbers.l0])
  | succ k1 =>
   have H := HA.out
   clear HA
   simp only [quernlaw9_numbers.l0] at H
   by_cases c3 : x5_1 < (l0.length : Int)
   ·rw [if_pos c3] at H
    have c3b0 : decide (x5_1 < (l0.length : Int)) = true := decide_eq_true c3
    clear c3
    by_cases c4 : 0 ≤ x5_1
    ·rw [if_pos c4] at H
     have c4b0 : decide (0 ≤ x5_1) = true := decide_eq_true c4
     clear c4
     by_cases c5 : (rd l0 x5_1) < 0
     ·rw [if_pos c5] at H
      have c5b0 : decide ((rd l0 x5_1) < 0) = true := decide_eq_true c5
      clear c5
      obtain rfl := Option.some.inj H
      have p498 : 0 ≤ (x5_1 : Int) := of_decide_eq_true (by first | (with_reducible assumption) | assumption)
      have q498 : x5_1 < (l0.length : Int) := of_decide_eq_true (by first | (with_reducible assumption) | assumption)
      obtain ⟨ad498, e498, hx498_0⟩ := Kd.at_int HR0.out x5_1 p498 q498
      cases e498
      replace p498 := eq_true p498
      replace q498 := eq_true q498
      go_wp2
      go_ret
      exact ⟨by first | rfl | (simp; done) | (simp [*]; done), by repeat (first | exact Drawn0.refl _ | apply Drawn0.step)⟩
     ·rw [if_neg c5] at H
      have c5b0 : decide ((rd l0 x5_1) < 0) = false := decide_eq_false c5
      clear c5
      by_cases c6 : (rd l0 x5_1) ≥ a1
      ·rw [if_pos c6] at H
       have c6b0 : decide (a1 ≤ (rd l0 x5_1)) = true := decide_eq_true c6
       clear c6
       obtain rfl := Option.some.inj H
       have p498 : 0 ≤ (x5_1 : Int) := of_decide_eq_true (by first | (with_reducible assumption) | assumption)
       have q498 : x5_1 < (l0.length : Int) := of_decide_eq_true (by first | (with_reducible assumption) | assumption)
       obtain ⟨ad498, e498, hx498_0⟩ := Kd.at_int HR0.out x5_1 p498 q498
       cases e498
       replace p498 := eq_true p498
       replace q498 := eq_true q498
       have p499 : 0 ≤ (x5_1 : Int) := of_decide_eq_true (by first | (with_reducible assumption) | assumption)
       have q499 : x5_1 < (l0.length : Int) := of_decide_eq_true (by first | (with_reducible assumption) | assumption)
       obtain ⟨ad499, e499, hx499_0⟩ := Kd.at_int HR0.out x5_1 p499 q499
       obtain rfl : ad498 = ad499 := (by injection e499)
       replace p499 := eq_true p499
       replace q499 := eq_true q499
       go_wp2
       go_ret
       exact ⟨by first | rfl | (simp; done) | (simp [*]; done), by repeat (first | exact Drawn0.refl _ | apply Drawn0.step)⟩
      ·rw [if_neg c6] at H
       have c6b0 : decide (a1 ≤ (rd l0 x5_1)) = false := decide_eq_false c6
       clear c6
       have H' := Aside0.mk H
       clear H
       have p498 : 0 ≤ (x5_1 : Int) := of_decide_eq_true (by first | (with_reducible assumption) | assumption)
       have q498 : x5_1 < (l0.length : Int) := of_decide_eq_true (by first | (with_reducible assumption) | assumption)
       obtain ⟨ad498, e498, hx498_0⟩ := Kd.at_int HR0.out x5_1 p498 q498
       cases e498
       replace p498 := eq_true p498
       replace q498 := eq_true q498
       have p499 : 0 ≤ (x5_1 : Int) := of_decide_eq_true (by first | (with_reducible assumption) | assumption)
       have q499 : x5_1 < (l0.length : Int) := of_decide_eq_true (by first | (with_reducible assumption) | assumption)
       obtain ⟨ad499, e499, hx499_0⟩ := Kd.at_int HR0.out x5_1 p499 q499
       obtain rfl : ad498 = ad499 := (by injection e499)
       replace p499 := eq_true p499
       replace q499 := eq_true q499
       go_wp2
       go_roundg k1
       case measure => have := HK1.out; omega
       case rel => exact ⟨(wrap64 (x5_1 + 1)), (by first | rfl | (simp; done) | (simp [*]; done)), H', ⟨by have := HK1.out; omega⟩, by repeat (first | exact Drawn0.refl _ | apply Drawn0.step)⟩
    ·rw [if_neg c4] at H
     exact absurd H (by simp)
   ·rw [if_neg c3] at H
    have c3b0 : decide (x5_1 < (l0.length : Int)) = false := decide_eq_false c3
    clear c3
    obtain rfl := Option.some.inj H
    go_wp2
    go_ret
    exact ⟨by first | rfl | (simp; done) | (simp [*]; done), by repeat (first | exact Drawn0.refl _ | apply Drawn0.step)⟩
mutual
def quernlaw9_ranges.l0 : Nat → Int → Bool → Int → ByteArray → List Int → Int → List (S42) → List (S46) → Option (Bool)
 | 0, _, _, _, _, _, _, _, _ => none
 | k + 1, x3, x4, x5, x501000, x501001, x501002, x501003, x501004 => if x5 < x3 then (if x4 = true then (if 0 ≤ x5 then (if x5 < (x501003.length : Int) then ((quernlaw9_numbers.f k ((rd_T42 x501003 x5).f3) x3).bind fun t503 => (quernlaw9_ranges.l0 k x3 t503 (wrap64 (x5 + 1)) x501000 x501001 x501002 x501003 x501004)) else (none)) else (none)) else (quernlaw9_ranges.l0 k x3 false (wrap64 (x5 + 1)) x501000 x501001 x501002 x501003 x501004)) else (quernlaw9_ranges.l1 k x3 x4 0 x501000 x501001 x501002 x501003 x501004)
def quernlaw9_ranges.l1 : Nat → Int → Bool → Int → ByteArray → List Int → Int → List (S42) → List (S46) → Option (Bool)
 | 0, _, _, _, _, _, _, _, _ => none
 | k + 1, x3, x4, x6, x501000, x501001, x501002, x501003, x501004 => if x6 < (x501004.length : Int) then (if 0 ≤ x6 then (if x4 = true then ((quernlaw9_numbers.f k ((rd_T46 x501004 x6).f0) x3).bind fun t506 => (if t506 = true then ((quernlaw9_numbers.f k ((rd_T46 x501004 x6).f1) x3).bind fun t507 => (if t507 = true then (if ((rd_T46 x501004 x6).f2.f1) < x3 then ((quernlaw9_numbers.f k ((rd_T46 x501004 x6).f3) (x501004.length : Int)).bind fun t508 => (if t508 = true then ((quernlaw9_numbers.f k ((rd_T46 x501004 x6).f2.f2) (x501004.length : Int)).bind fun t509 => (quernlaw9_ranges.l1 k x3 t509 (wrap64 (x6 + 1)) x501000 x501001 x501002 x501003 x501004)) else (quernlaw9_ranges.l1 k x3 false (wrap64 (x6 + 1)) x501000 x501001 x501002 x501003 x501004))) else (quernlaw9_ranges.l1 k x3 false (wrap64 (x6 + 1)) x501000 x501001 x501002 x501003 x501004)) else (quernlaw9_ranges.l1 k x3 false (wrap64 (x6 + 1)) x501000 x501001 x501002 x501003 x501004))) else (quernlaw9_ranges.l1 k x3 false (wrap64 (x6 + 1)) x501000 x501001 x501002 x501003 x501004))) else (quernlaw9_ranges.l1 k x3 false (wrap64 (x6 + 1)) x501000 x501001 x501002 x501003 x501004)) else (none)) else (if x4 = true then (some (decide ((x501004.length : Int) > 0))) else (some false))
end
def quernlaw9_ranges.f (k : Nat) (a0_0 : ByteArray) (l0_1 : List Int) (a0_2 : Int) (l0_3 : List (S42)) (l0_4 : List (S46)) : Option (Bool) := (quernlaw9_numbers.f k l0_1 (l0_3.length : Int)).bind fun t501 => (quernlaw9_ranges.l0 k (l0_3.length : Int) t501 0 a0_0 l0_1 a0_2 l0_3 l0_4)
theorem quernlaw9_ranges.mono_l : ∀ k, (∀ y0 y1 y2 y3 y4 y5 y6 y7, LeO (quernlaw9_ranges.l0 k y0 y1 y2 y3 y4 y5 y6 y7) (quernlaw9_ranges.l0 (k + 1) y0 y1 y2 y3 y4 y5 y6 y7)) ∧ (∀ y0 y1 y2 y3 y4 y5 y6 y7, LeO (quernlaw9_ranges.l1 k y0 y1 y2 y3 y4 y5 y6 y7) (quernlaw9_ranges.l1 (k + 1) y0 y1 y2 y3 y4 y5 y6 y7))
 | 0 => ⟨fun _ _ _ _ _ _ _ _ r h => by simp [quernlaw9_ranges.l0] at h, fun _ _ _ _ _ _ _ _ r h => by simp [quernlaw9_ranges.l1] at h⟩
 | k + 1 => by
  obtain ⟨ih0, ih1⟩ := quernlaw9_ranges.mono_l k
  refine ⟨?_, ?_⟩
  ·intro y0 y1 y2 y3 y4 y5 y6 y7
   unfold quernlaw9_ranges.l0
   repeat' first
   | (with_reducible exact ih0 _ _ _ _ _ _ _ _)
   | (with_reducible exact ih1 _ _ _ _ _ _ _ _)
   | (with_reducible exact quernlaw9_numbers.mono _ _ _)
   | (with_reducible exact LeO.refl _)
   | (with_reducible exact LeO.none _)
   | (with_reducible refine LeO.ite ?_ ?_)
   | (with_reducible refine LeO.bind ?_ (fun _ => ?_))
   | exact ih0 _ _ _ _ _ _ _ _
   | exact ih1 _ _ _ _ _ _ _ _
   | exact quernlaw9_numbers.mono _ _ _
   | exact LeO.none _
   | refine LeO.ite ?_ ?_
   | refine LeO.bind ?_ (fun _ => ?_)
  ·intro y0 y1 y2 y3 y4 y5 y6 y7
   unfold quernlaw9_ranges.l1
   repeat' first
   | (with_reducible exact ih0 _ _ _ _ _ _ _ _)
   | (with_reducible exact ih1 _ _ _ _ _ _ _ _)
   | (with_reducible exact quernlaw9_numbers.mono _ _ _)
   | (with_reducible exact LeO.refl _)
   | (with_reducible exact LeO.none _)
   | (with_reducible refine LeO.ite ?_ ?_)
   | (with_reducible refine LeO.bind ?_ (fun _ => ?_))
   | exact ih0 _ _ _ _ _ _ _ _
   | exact ih1 _ _ _ _ _ _ _ _
   | exact quernlaw9_numbers.mono _ _ _
   | exact LeO.none _
   | refine LeO.ite ?_ ?_
   | refine LeO.bind ?_ (fun _ => ?_)
theorem quernlaw9_ranges.mono : ∀ a0 a1 a2 a3 a4 k, LeO (quernlaw9_ranges.f k a0 a1 a2 a3 a4) (quernlaw9_ranges.f (k + 1) a0 a1 a2 a3 a4) := by
 intro a0 a1 a2 a3 a4 k
 obtain ⟨ih0, ih1⟩ := quernlaw9_ranges.mono_l k
 unfold quernlaw9_ranges.f
 repeat' first
   | (with_reducible exact ih0 _ _ _ _ _ _ _ _)
   | (with_reducible exact ih1 _ _ _ _ _ _ _ _)
   | (with_reducible exact quernlaw9_numbers.mono _ _ _)
   | (with_reducible exact LeO.refl _)
   | (with_reducible exact LeO.none _)
   | (with_reducible refine LeO.ite ?_ ?_)
   | (with_reducible refine LeO.bind ?_ (fun _ => ?_))
   | exact ih0 _ _ _ _ _ _ _ _
   | exact ih1 _ _ _ _ _ _ _ _
   | exact quernlaw9_numbers.mono _ _ _
   | exact LeO.none _
   | refine LeO.ite ?_ ?_
   | refine LeO.bind ?_ (fun _ => ?_)
set_option maxHeartbeats 8000000 in
set_option maxRecDepth 100000 in
theorem quernlaw9_ranges.calls (k : Nat) (a0_0 : ByteArray) (A0_1 : Option Addr) (c0_1 : Nat) (l0_1 : List Int) (a0_2 : Int) (A0_3 : Option Addr) (c0_3 : Nat) (l0_3 : List (S42)) (A0_4 : Option Addr) (c0_4 : Nat) (l0_4 : List (S46)) (r : Bool) (w : World) (hr0_1 : Kd.C (Kd.int .i64) w A0_1 l0_1.length l0_1) (hc0_1 : l0_1.length ≤ c0_1) (hr0_3 : Kd.C k42 w A0_3 l0_3.length l0_3) (hc0_3 : l0_3.length ≤ c0_3) (hr0_4 : Kd.C k46 w A0_4 l0_4.length l0_4) (hc0_4 : l0_4.length ≤ c0_4) (h : quernlaw9_ranges.f k a0_0 l0_1 a0_2 l0_3 l0_4 = some r) :
  Calls Try.prog 32 #[.agg #[.string a0_0, .slice A0_1 l0_1.length c0_1, .int .i64 a0_2, .slice A0_3 l0_3.length c0_3, .slice A0_4 l0_4.length c0_4]] w fun e w' => e = .returned (.bool r) ∧ Below w.heap.size w w' := by
 have hu38 := Try.underlying38
 have hu46 := Try.underlying46
 have HR0_1 := Aside0.mk hr0_1
 have HC0_1 := Aside0.mk hc0_1
 clear hr0_1 hc0_1
 have HR0_3 := Aside0.mk hr0_3
 have HC0_3 := Aside0.mk hc0_3
 clear hr0_3 hc0_3
 have HR0_4 := Aside0.mk hr0_4
 have HC0_4 := Aside0.mk hc0_4
 clear hr0_4 hc0_4
 have HB := Aside0.mk (Below.refl w.heap.size w)
 have H : ((quernlaw9_numbers.f k l0_1 (l0_3.length : Int)).bind fun t501 => (quernlaw9_ranges.l0 k (l0_3.length : Int) t501 0 a0_0 l0_1 a0_2 l0_3 l0_4)) = some r := h
 clear h
 replace H := Option.bind_eq_some_iff.mp H
 obtain ⟨t501, A20, H⟩ := H
 replace H : (quernlaw9_ranges.l0 k (l0_3.length : Int) t501 0 a0_0 l0_1 a0_2 l0_3 l0_4) = some r := H
 have A2 := Aside0.mk A20
 clear A20
 have H' := Aside0.mk H
 clear H
 go_enter Try.func32, Try.ntmps32
 go_wp2_with (first | ((with_reducible refine gate_dst (N := 1) rfl ?_); (try (refine gate_guard (by rfl) ?_; dsimp only)); refine box_event ?hg (N := 1) ?hd (cs := #[.string a0_0, .slice A0_1 l0_1.length c0_1, .int .i64 a0_2, .slice A0_3 l0_3.length c0_3, .slice A0_4 l0_4.length c0_4]) (t := 38) ?hr ?_; (case hd => rfl); (case hg => rfl); (case hr => first | (go_simp; done) | (go_simp; rfl)); intro gb500 hg w3 hbox hb; have n0_ := Aside0.mk (below_step (by repeat (first | (with_reducible first | exact HB.out | apply below_alloc | apply pw_below_drewN | apply below_drew1) | exact HB.out)) hb); have n1_ := Aside0.mk (hbox); have n2_ := Aside0.mk ((by rw [hg]; exact (below_size (by repeat (first | (with_reducible first | exact HB.out | apply below_alloc | apply pw_below_drewN | apply below_drew1) | exact HB.out))) : w.heap.size ≤ gb500)); have n3_ := Aside0.mk ((by rw [hg]; exact (below_size (by repeat (first | (with_reducible first | exact HB.out | apply below_alloc | apply pw_below_drewN | apply below_drew1) | exact HB.out))) : w.heap.size ≤ gb500)); clear HB; have HB := n0_; have BK500 := n1_; have GW500 := n2_; have GE500 := n3_; clear n0_ n1_ n2_ n3_; clear hb hbox hg; have hcz4_0 : w3.cell? ⟨gb500, 0, none⟩ = some (.string a0_0) := (blk_cell BK500.out 0).trans rfl; have hcz4_1 : w3.cell? ⟨gb500, 1, none⟩ = some (.slice A0_1 l0_1.length c0_1) := (blk_cell BK500.out 1).trans rfl; have hcz4_2 : w3.cell? ⟨gb500, 2, none⟩ = some (.int .i64 a0_2) := (blk_cell BK500.out 2).trans rfl; have hcz4_3 : w3.cell? ⟨gb500, 3, none⟩ = some (.slice A0_3 l0_3.length c0_3) := (blk_cell BK500.out 3).trans rfl; have hcz4_4 : w3.cell? ⟨gb500, 4, none⟩ = some (.slice A0_4 l0_4.length c0_4) := (blk_cell BK500.out 4).trans rfl; have hfz4_0 := blk_frozen BK500.out 0; have hfz4_1 := blk_frozen BK500.out 1; have hfz4_2 := blk_frozen BK500.out 2; have hfz4_3 := blk_frozen BK500.out 3; have hfz4_4 := blk_frozen BK500.out 4) | ((with_reducible refine gate_callee (f := 15) rfl ?_); refine goesL_ (some 14) rfl rfl Try.func15 (by kernel_rfl) rfl #[.slice A0_1 l0_1.length c0_1, .int .i64 (l0_3.length : Int)] rfl (by (try simp only [List.map_toArray, List.map_cons, List.map_nil]); first | done | rfl | (simp only [List.length_drop, List.length_take]; rfl)) ?_; (with_reducible refine (quernlaw9_numbers.calls k _ _ l0_1 (l0_3.length : Int) t501 _ ?side1 ?side2 A2.out).mono ?_); (case side1 => repeat (first | exact (Kd.C_below HR0_1.out HB.out) | (with_reducible refine Kd.C_alloc ?_ _) | (with_reducible refine Kd.C_drewN ?_ _) | (with_reducible refine Kd.C_drew ?_))); (case side2 => exact HC0_1.out); rintro e w' ⟨rfl, ⟨nd, rfl⟩⟩; refine ⟨_, rfl, ?_⟩))
 go_loopg [4, 5] k (fun kq v4 v5 w' => ∃ (x4_1 : Bool) (x5_1 : Int), v4 = .bool x4_1 ∧ v5 = .int .i64 x5_1 ∧ Aside0 (quernlaw9_ranges.l0 kq (l0_3.length : Int) x4_1 x5_1 a0_0 l0_1 a0_2 l0_3 l0_4 = some r) ∧ Aside0 (kq ≤ k) ∧ Aside0 (w'.heap[gb500]? = some (.cells #[.string a0_0, (.slice A0_1 l0_1.length c0_1), .int .i64 a0_2, (.slice A0_3 l0_3.length c0_3), (.slice A0_4 l0_4.length c0_4)] 38 (0, 0))) ∧ Aside0 (Below w.heap.size w w'))
 case atStart => exact ⟨(t501), (0), (by first | rfl | (simp; done) | (simp [*]; done)), (by first | rfl | (simp; done) | (simp [*]; done)), H', ⟨Nat.le_refl _⟩, ⟨by (with_reducible repeat (first | refine blk_drewN ?_ _ | refine blk_drew ?_ | refine blk_alloc ?_ _)); exact BK500.out⟩, ⟨by repeat (first | (with_reducible first | exact HB.out | apply below_alloc | apply pw_below_drewN | apply below_drew1 | refine below_set ?_ GE500.out) | exact HB.out)⟩⟩
 case round =>
  clear H'
  try clear c1
  try clear p2
  try clear c3
  try clear hcz4_0
  try clear hcz4_1
  try clear hcz4_2
  try clear hcz4_3
  try clear hcz4_4
  try clear hfz4_0
  try clear hfz4_1
  try clear hfz4_2
  try clear hfz4_3
  try clear hfz4_4
  obtain ⟨x4_1, x5_1, rfl, rfl, HA, HK1, BK500, HB⟩ := hrel
  cases gk with
  | zero => exact absurd HA.out (by simp [quernlaw9_ranges.l0])
  | succ k1 =>
   have H := HA.out
   clear HA
   simp only [quernlaw9_ranges.l0] at H
   by_cases c5 : x5_1 < (l0_3.length : Int)
   ·rw [if_pos c5] at H
    have c5b0 : decide (x5_1 < (l0_3.length : Int)) = true := decide_eq_true c5
    clear c5
    by_cases c6 : x4_1 = true
    ·subst c6
     have H1 : (if 0 ≤ x5_1 then (if x5_1 < (l0_3.length : Int) then ((quernlaw9_numbers.f k1 ((rd_T42 l0_3 x5_1).f3) (l0_3.length : Int)).bind fun t503 => (quernlaw9_ranges.l0 k1 (l0_3.length : Int) t503 (wrap64 (x5_1 + 1)) a0_0 l0_1 a0_2 l0_3 l0_4)) else (none)) else (none)) = some r := by rw [if_pos rfl] at H; exact H
     clear H
     have H := H1
     clear H1
     by_cases c7 : 0 ≤ x5_1
     ·rw [if_pos c7] at H
      have c7b0 : decide (0 ≤ x5_1) = true := decide_eq_true c7
      clear c7
      by_cases c8 : x5_1 < (l0_3.length : Int)
      ·rw [if_pos c8] at H
       have c8b0 : decide (x5_1 < (l0_3.length : Int)) = true := decide_eq_true c8
       clear c8
       replace H := Option.bind_eq_some_iff.mp H
       obtain ⟨t503, A90, H⟩ := H
       replace H : (quernlaw9_ranges.l0 k1 (l0_3.length : Int) t503 (wrap64 (x5_1 + 1)) a0_0 l0_1 a0_2 l0_3 l0_4) = some r := H
       have A9 := Aside0.mk A90
       clear A90
       have H' := Aside0.mk H
       clear H
       have hcz10_0 : wr.cell? ⟨gb500, 0, none⟩ = some (.string a0_0) := (blk_cell BK500.out 0).trans rfl
       have hcz10_1 : wr.cell? ⟨gb500, 1, none⟩ = some (.slice A0_1 l0_1.length c0_1) := (blk_cell BK500.out 1).trans rfl
       have hcz10_2 : wr.cell? ⟨gb500, 2, none⟩ = some (.int .i64 a0_2) := (blk_cell BK500.out 2).trans rfl
       have hcz10_3 : wr.cell? ⟨gb500, 3, none⟩ = some (.slice A0_3 l0_3.length c0_3) := (blk_cell BK500.out 3).trans rfl
       have hcz10_4 : wr.cell? ⟨gb500, 4, none⟩ = some (.slice A0_4 l0_4.length c0_4) := (blk_cell BK500.out 4).trans rfl
       have hfz10_0 := blk_frozen BK500.out 0
       have hfz10_1 := blk_frozen BK500.out 1
       have hfz10_2 := blk_frozen BK500.out 2
       have hfz10_3 := blk_frozen BK500.out 3
       have hfz10_4 := blk_frozen BK500.out 4
       have p502 : 0 ≤ (x5_1 : Int) := of_decide_eq_true (by first | (with_reducible assumption) | assumption)
       have q502 : x5_1 < (l0_3.length : Int) := of_decide_eq_true (by first | (with_reducible assumption) | assumption)
       obtain ⟨ad502, A502_3, c502_3, e502, hx502_0, hx502_1, hx502_2, hx502_3, hl502_3, hi502_3⟩ := at_T42 HR0_3.out x5_1 p502 q502
       cases e502
       replace hx502_0 := cellA HB hx502_0
       replace hx502_1 := cellA HB hx502_1
       replace hx502_2 := cellA HB hx502_2
       replace hx502_3 := cellA HB hx502_3
       have HR502_3 := Aside0.mk hi502_3
       have HC502_3 := Aside0.mk hl502_3
       clear hi502_3 hl502_3
       replace p502 := eq_true p502
       replace q502 := eq_true q502
       go_wp2_with (first | (go_at_call 15; (with_reducible refine (quernlaw9_numbers.calls k1 _ _ ((rd_T42 l0_3 x5_1).f3) (l0_3.length : Int) t503 _ ?side1 ?side2 A9.out).mono ?_); (case side1 => repeat (first | exact (Kd.C_below HR502_3.out HB.out) | (with_reducible refine Kd.C_alloc ?_ _) | (with_reducible refine Kd.C_drewN ?_ _) | (with_reducible refine Kd.C_drew ?_))); (case side2 => exact HC502_3.out); rintro e w' ⟨rfl, ⟨nd, rfl⟩⟩))
       go_roundg k1
       case measure => have := HK1.out; omega
       case rel => exact ⟨(t503), (wrap64 (x5_1 + 1)), (by first | rfl | (simp; done) | (simp [*]; done)), (by first | rfl | (simp; done) | (simp [*]; done)), H', ⟨by have := HK1.out; omega⟩, ⟨by (with_reducible repeat (first | refine blk_drewN ?_ _ | refine blk_drew ?_ | refine blk_alloc ?_ _)); exact BK500.out⟩, ⟨by repeat (first | (with_reducible first | exact HB.out | apply below_alloc | apply pw_below_drewN | apply below_drew1 | refine below_set ?_ GE500.out) | exact HB.out)⟩⟩
      ·rw [if_neg c8] at H
       exact absurd H (by simp)
     ·rw [if_neg c7] at H
      exact absurd H (by simp)
    ·replace c6 := Bool.eq_false_iff.mpr c6
     subst c6
     have H1 : (quernlaw9_ranges.l0 k1 (l0_3.length : Int) false (wrap64 (x5_1 + 1)) a0_0 l0_1 a0_2 l0_3 l0_4) = some r := by rw [if_neg (show ¬ (false = true) by decide)] at H; exact H
     clear H
     have H := H1
     clear H1
     have H' := Aside0.mk H
     clear H
     go_wp2
     go_roundg k1
     case measure => have := HK1.out; omega
     case rel => exact ⟨(false), (wrap64 (x5_1 + 1)), (by first | rfl | (simp; done) | (simp [*]; done)), (by first | rfl | (simp; done) | (simp [*]; done)), H', ⟨by have := HK1.out; omega⟩, ⟨by (with_reducible repeat (first | refine blk_drewN ?_ _ | refine blk_drew ?_ | refine blk_alloc ?_ _)); exact BK500.out⟩, ⟨by repeat (first | (with_reducible first | exact HB.out | apply below_alloc | apply pw_below_drewN | apply below_drew1 | refine below_set ?_ GE500.out) | exact HB.out)⟩⟩
   ·rw [if_neg c5] at H
    have c5b0 : decide (x5_1 < (l0_3.length : Int)) = false := decide_eq_false c5
    clear c5
    have H' := Aside0.mk H
    clear H
    go_wp2
    go_loopg [4, 6] k1 (fun kq v4 v6 w' => ∃ (x4_2 : Bool) (x6_2 : Int), v4 = .bool x4_2 ∧ v6 = .int .i64 x6_2 ∧ Aside0 (quernlaw9_ranges.l1 kq (l0_3.length : Int) x4_2 x6_2 a0_0 l0_1 a0_2 l0_3 l0_4 = some r) ∧ Aside0 (kq ≤ k1) ∧ Aside0 (w'.heap[gb500]? = some (.cells #[.string a0_0, (.slice A0_1 l0_1.length c0_1), .int .i64 a0_2, (.slice A0_3 l0_3.length c0_3), (.slice A0_4 l0_4.length c0_4)] 38 (0, 0))) ∧ Aside0 (Below w.heap.size w w'))
    case atStart => exact ⟨(x4_1), (0), (by first | rfl | (simp; done) | (simp [*]; done)), (by first | rfl | (simp; done) | (simp [*]; done)), H', ⟨Nat.le_refl _⟩, ⟨by (with_reducible repeat (first | refine blk_drewN ?_ _ | refine blk_drew ?_ | refine blk_alloc ?_ _)); exact BK500.out⟩, ⟨by repeat (first | (with_reducible first | exact HB.out | apply below_alloc | apply pw_below_drewN | apply below_drew1 | refine below_set ?_ GE500.out) | exact HB.out)⟩⟩
    case round =>
     clear H'
     try clear c1
     try clear p2
     try clear c3
     try clear c5
     try clear c5b0
     try clear p5
     try clear q5
     try clear hx5
     try clear c6
     try clear p6
     try clear c7
     try clear c7b0
     try clear c8
     try clear c8b0
     try clear hcz10_0
     try clear hcz10_1
     try clear hcz10_2
     try clear hcz10_3
     try clear hcz10_4
     try clear hcz4_0
     try clear hcz4_1
     try clear hcz4_2
     try clear hcz4_3
     try clear hcz4_4
     try clear hfz10_0
     try clear hfz10_1
     try clear hfz10_2
     try clear hfz10_3
     try clear hfz10_4
     try clear hfz4_0
     try clear hfz4_1
     try clear hfz4_2
     try clear hfz4_3
     try clear hfz4_4
     try clear hx502_0
     try clear hx502_1
     try clear hx502_2
     try clear hx502_3
     try clear p2
     try clear p502
     try clear q502
     obtain ⟨x4_2, x6_2, rfl, rfl, HA, HK2, BK500, HB⟩ := hrel
     cases gk with
     | zero => exact absurd HA.out (by simp [quernlaw9_ranges.l1])
     | succ k2 =>
      have H := HA.out
      clear HA
      simp only [quernlaw9_ranges.l1] at H
      by_cases c11 : x6_2 < (l0_4.length : Int)
      ·rw [if_pos c11] at H
       have c11b0 : decide (x6_2 < (l0_4.length : Int)) = true := decide_eq_true c11
       clear c11
       by_cases c12 : 0 ≤ x6_2
       ·rw [if_pos c12] at H
        have c12b0 : decide (0 ≤ x6_2) = true := decide_eq_true c12
        clear c12
        by_cases c13 : x4_2 = true
        ·subst c13
         have H1 : ((quernlaw9_numbers.f k2 ((rd_T46 l0_4 x6_2).f0) (l0_3.length : Int)).bind fun t506 => (if t506 = true then ((quernlaw9_numbers.f k2 ((rd_T46 l0_4 x6_2).f1) (l0_3.length : Int)).bind fun t507 => (if t507 = true then (if ((rd_T46 l0_4 x6_2).f2.f1) < (l0_3.length : Int) then ((quernlaw9_numbers.f k2 ((rd_T46 l0_4 x6_2).f3) (l0_4.length : Int)).bind fun t508 => (if t508 = true then ((quernlaw9_numbers.f k2 ((rd_T46 l0_4 x6_2).f2.f2) (l0_4.length : Int)).bind fun t509 => (quernlaw9_ranges.l1 k2 (l0_3.length : Int) t509 (wrap64 (x6_2 + 1)) a0_0 l0_1 a0_2 l0_3 l0_4)) else (quernlaw9_ranges.l1 k2 (l0_3.length : Int) false (wrap64 (x6_2 + 1)) a0_0 l0_1 a0_2 l0_3 l0_4))) else (quernlaw9_ranges.l1 k2 (l0_3.length : Int) false (wrap64 (x6_2 + 1)) a0_0 l0_1 a0_2 l0_3 l0_4)) else (quernlaw9_ranges.l1 k2 (l0_3.length : Int) false (wrap64 (x6_2 + 1)) a0_0 l0_1 a0_2 l0_3 l0_4))) else (quernlaw9_ranges.l1 k2 (l0_3.length : Int) false (wrap64 (x6_2 + 1)) a0_0 l0_1 a0_2 l0_3 l0_4))) = some r := by rw [if_pos rfl] at H; exact H
         clear H
         have H := H1
         clear H1
         replace H := Option.bind_eq_some_iff.mp H
         obtain ⟨t506, A140, H⟩ := H
         replace H : (if t506 = true then ((quernlaw9_numbers.f k2 ((rd_T46 l0_4 x6_2).f1) (l0_3.length : Int)).bind fun t507 => (if t507 = true then (if ((rd_T46 l0_4 x6_2).f2.f1) < (l0_3.length : Int) then ((quernlaw9_numbers.f k2 ((rd_T46 l0_4 x6_2).f3) (l0_4.length : Int)).bind fun t508 => (if t508 = true then ((quernlaw9_numbers.f k2 ((rd_T46 l0_4 x6_2).f2.f2) (l0_4.length : Int)).bind fun t509 => (quernlaw9_ranges.l1 k2 (l0_3.length : Int) t509 (wrap64 (x6_2 + 1)) a0_0 l0_1 a0_2 l0_3 l0_4)) else (quernlaw9_ranges.l1 k2 (l0_3.length : Int) false (wrap64 (x6_2 + 1)) a0_0 l0_1 a0_2 l0_3 l0_4))) else (quernlaw9_ranges.l1 k2 (l0_3.length : Int) false (wrap64 (x6_2 + 1)) a0_0 l0_1 a0_2 l0_3 l0_4)) else (quernlaw9_ranges.l1 k2 (l0_3.length : Int) false (wrap64 (x6_2 + 1)) a0_0 l0_1 a0_2 l0_3 l0_4))) else (quernlaw9_ranges.l1 k2 (l0_3.length : Int) false (wrap64 (x6_2 + 1)) a0_0 l0_1 a0_2 l0_3 l0_4)) = some r := H
         have A14 := Aside0.mk A140
         clear A140
         by_cases c15 : t506 = true
         ·subst c15
          have H1 : ((quernlaw9_numbers.f k2 ((rd_T46 l0_4 x6_2).f1) (l0_3.length : Int)).bind fun t507 => (if t507 = true then (if ((rd_T46 l0_4 x6_2).f2.f1) < (l0_3.length : Int) then ((quernlaw9_numbers.f k2 ((rd_T46 l0_4 x6_2).f3) (l0_4.length : Int)).bind fun t508 => (if t508 = true then ((quernlaw9_numbers.f k2 ((rd_T46 l0_4 x6_2).f2.f2) (l0_4.length : Int)).bind fun t509 => (quernlaw9_ranges.l1 k2 (l0_3.length : Int) t509 (wrap64 (x6_2 + 1)) a0_0 l0_1 a0_2 l0_3 l0_4)) else (quernlaw9_ranges.l1 k2 (l0_3.length : Int) false (wrap64 (x6_2 + 1)) a0_0 l0_1 a0_2 l0_3 l0_4))) else (quernlaw9_ranges.l1 k2 (l0_3.length : Int) false (wrap64 (x6_2 + 1)) a0_0 l0_1 a0_2 l0_3 l0_4)) else (quernlaw9_ranges.l1 k2 (l0_3.length : Int) false (wrap64 (x6_2 + 1)) a0_0 l0_1 a0_2 l0_3 l0_4))) = some r := by rw [if_pos rfl] at H; exact H
          clear H
          have H := H1
          clear H1
          replace H := Option.bind_eq_some_iff.mp H
          obtain ⟨t507, A160, H⟩ := H
          replace H : (if t507 = true then (if ((rd_T46 l0_4 x6_2).f2.f1) < (l0_3.length : Int) then ((quernlaw9_numbers.f k2 ((rd_T46 l0_4 x6_2).f3) (l0_4.length : Int)).bind fun t508 => (if t508 = true then ((quernlaw9_numbers.f k2 ((rd_T46 l0_4 x6_2).f2.f2) (l0_4.length : Int)).bind fun t509 => (quernlaw9_ranges.l1 k2 (l0_3.length : Int) t509 (wrap64 (x6_2 + 1)) a0_0 l0_1 a0_2 l0_3 l0_4)) else (quernlaw9_ranges.l1 k2 (l0_3.length : Int) false (wrap64 (x6_2 + 1)) a0_0 l0_1 a0_2 l0_3 l0_4))) else (quernlaw9_ranges.l1 k2 (l0_3.length : Int) false (wrap64 (x6_2 + 1)) a0_0 l0_1 a0_2 l0_3 l0_4)) else (quernlaw9_ranges.l1 k2 (l0_3.length : Int) false (wrap64 (x6_2 + 1)) a0_0 l0_1 a0_2 l0_3 l0_4)) = some r := H
          have A16 := Aside0.mk A160
          clear A160
          by_cases c17 : t507 = true
          ·subst c17
           have H1 : (if ((rd_T46 l0_4 x6_2).f2.f1) < (l0_3.length : Int) then ((quernlaw9_numbers.f k2 ((rd_T46 l0_4 x6_2).f3) (l0_4.length : Int)).bind fun t508 => (if t508 = true then ((quernlaw9_numbers.f k2 ((rd_T46 l0_4 x6_2).f2.f2) (l0_4.length : Int)).bind fun t509 => (quernlaw9_ranges.l1 k2 (l0_3.length : Int) t509 (wrap64 (x6_2 + 1)) a0_0 l0_1 a0_2 l0_3 l0_4)) else (quernlaw9_ranges.l1 k2 (l0_3.length : Int) false (wrap64 (x6_2 + 1)) a0_0 l0_1 a0_2 l0_3 l0_4))) else (quernlaw9_ranges.l1 k2 (l0_3.length : Int) false (wrap64 (x6_2 + 1)) a0_0 l0_1 a0_2 l0_3 l0_4)) = some r := by rw [if_pos rfl] at H; exact H
           clear H
           have H := H1
           clear H1
           by_cases c18 : ((rd_T46 l0_4 x6_2).f2.f1) < (l0_3.length : Int)
           ·rw [if_pos c18] at H
            have c18b0 : decide (((rd_T46 l0_4 x6_2).f2.f1) < (l0_3.length : Int)) = true := decide_eq_true c18
            clear c18
            replace H := Option.bind_eq_some_iff.mp H
            obtain ⟨t508, A190, H⟩ := H
            replace H : (if t508 = true then ((quernlaw9_numbers.f k2 ((rd_T46 l0_4 x6_2).f2.f2) (l0_4.length : Int)).bind fun t509 => (quernlaw9_ranges.l1 k2 (l0_3.length : Int) t509 (wrap64 (x6_2 + 1)) a0_0 l0_1 a0_2 l0_3 l0_4)) else (quernlaw9_ranges.l1 k2 (l0_3.length : Int) false (wrap64 (x6_2 + 1)) a0_0 l0_1 a0_2 l0_3 l0_4)) = some r := H
            have A19 := Aside0.mk A190
            clear A190
            by_cases c20 : t508 = true
            ·subst c20
             have H1 : ((quernlaw9_numbers.f k2 ((rd_T46 l0_4 x6_2).f2.f2) (l0_4.length : Int)).bind fun t509 => (quernlaw9_ranges.l1 k2 (l0_3.length : Int) t509 (wrap64 (x6_2 + 1)) a0_0 l0_1 a0_2 l0_3 l0_4)) = some r := by rw [if_pos rfl] at H; exact H
             clear H
             have H := H1
             clear H1
             replace H := Option.bind_eq_some_iff.mp H
             obtain ⟨t509, A210, H⟩ := H
             replace H : (quernlaw9_ranges.l1 k2 (l0_3.length : Int) t509 (wrap64 (x6_2 + 1)) a0_0 l0_1 a0_2 l0_3 l0_4) = some r := H
             have A21 := Aside0.mk A210
             clear A210
             have H' := Aside0.mk H
             clear H
             have hcz22_0 : wr.cell? ⟨gb500, 0, none⟩ = some (.string a0_0) := (blk_cell BK500.out 0).trans rfl
             have hcz22_1 : wr.cell? ⟨gb500, 1, none⟩ = some (.slice A0_1 l0_1.length c0_1) := (blk_cell BK500.out 1).trans rfl
             have hcz22_2 : wr.cell? ⟨gb500, 2, none⟩ = some (.int .i64 a0_2) := (blk_cell BK500.out 2).trans rfl
             have hcz22_3 : wr.cell? ⟨gb500, 3, none⟩ = some (.slice A0_3 l0_3.length c0_3) := (blk_cell BK500.out 3).trans rfl
             have hcz22_4 : wr.cell? ⟨gb500, 4, none⟩ = some (.slice A0_4 l0_4.length c0_4) := (blk_cell BK500.out 4).trans rfl
             have hfz22_0 := blk_frozen BK500.out 0
             have hfz22_1 := blk_frozen BK500.out 1
             have hfz22_2 := blk_frozen BK500.out 2
             have hfz22_3 := blk_frozen BK500.out 3
             have hfz22_4 := blk_frozen BK500.out 4
             have p504 : 0 ≤ (x6_2 : Int) := of_decide_eq_true (by first | (with_reducible assumption) | assumption)
             have q504 : x6_2 < (l0_4.length : Int) := of_decide_eq_true (by first | (with_reducible assumption) | assumption)
             obtain ⟨ad504, A504_0, c504_0, A504_1, c504_1, A504_4, c504_4, A504_5, c504_5, e504, hx504_0, hx504_1, hx504_2, hx504_3, hx504_4, hx504_5, hl504_0, hi504_0, hl504_1, hi504_1, hl504_4, hi504_4, hl504_5, hi504_5⟩ := at_T46 HR0_4.out x6_2 p504 q504
             cases e504
             replace hx504_0 := cellA HB hx504_0
             replace hx504_1 := cellA HB hx504_1
             replace hx504_2 := cellA HB hx504_2
             replace hx504_3 := cellA HB hx504_3
             replace hx504_4 := cellA HB hx504_4
             replace hx504_5 := cellA HB hx504_5
             have HR504_0 := Aside0.mk hi504_0
             have HC504_0 := Aside0.mk hl504_0
             clear hi504_0 hl504_0
             have HR504_1 := Aside0.mk hi504_1
             have HC504_1 := Aside0.mk hl504_1
             clear hi504_1 hl504_1
             have HR504_4 := Aside0.mk hi504_4
             have HC504_4 := Aside0.mk hl504_4
             clear hi504_4 hl504_4
             have HR504_5 := Aside0.mk hi504_5
             have HC504_5 := Aside0.mk hl504_5
             clear hi504_5 hl504_5
             replace p504 := eq_true p504
             replace q504 := eq_true q504
             go_wp2_with (first | ((with_reducible refine gate_dst (N := 7) rfl ?_); (try (refine gate_guard (by rfl) ?_; dsimp only)); refine box_event ?hg (N := 7) ?hd (cs := #[.slice none 0 0, .slice none 0 0, .int .i64 0, .int .i64 0, .slice none 0 0, .slice none 0 0]) (t := 46) ?hr ?_; (case hd => rfl); (case hg => rfl); (case hr => first | (go_simp; done) | (go_simp; rfl)); intro gb505 hg w23 hbox hb; have n0_ := Aside0.mk (blk_below (g := gb500) (o := .cells #[.string a0_0, .slice A0_1 l0_1.length c0_1, .int .i64 a0_2, .slice A0_3 l0_3.length c0_3, .slice (some ad504) l0_4.length c0_4] 38 (0, 0)) (by (with_reducible repeat (first | refine blk_drewN ?_ _ | refine blk_drew ?_ | refine blk_alloc ?_ _)); exact BK500.out) hb); have n1_ := Aside0.mk (below_step (by repeat (first | (with_reducible first | exact HB.out | apply below_alloc | apply pw_below_drewN | apply below_drew1 | refine below_set ?_ GE500.out) | exact HB.out)) hb); have n2_ := Aside0.mk (hbox); have n3_ := Aside0.mk ((by rw [hg]; exact (below_size (by repeat (first | (with_reducible first | exact HB.out | apply below_alloc | apply pw_below_drewN | apply below_drew1 | refine below_set ?_ GE500.out) | exact HB.out))) : w.heap.size ≤ gb505)); have n4_ := Aside0.mk ((by rw [hg]; exact (below_size (by repeat (first | (with_reducible first | exact HB.out | apply below_alloc | apply pw_below_drewN | apply below_drew1 | refine below_set ?_ GE500.out) | exact HB.out))) : w.heap.size ≤ gb505)); have n5_ := Aside0.mk ((by rw [hg]; exact Nat.ne_of_lt (blk_lt (g := gb500) (o := .cells #[.string a0_0, .slice A0_1 l0_1.length c0_1, .int .i64 a0_2, .slice A0_3 l0_3.length c0_3, .slice (some ad504) l0_4.length c0_4] 38 (0, 0)) (by (with_reducible repeat (first | refine blk_drewN ?_ _ | refine blk_drew ?_ | refine blk_alloc ?_ _)); exact BK500.out)) : gb500 ≠ gb505)); have n6_ := Aside0.mk ((by rw [hg]; exact Nat.ne_of_gt (blk_lt (g := gb500) (o := .cells #[.string a0_0, .slice A0_1 l0_1.length c0_1, .int .i64 a0_2, .slice A0_3 l0_3.length c0_3, .slice (some ad504) l0_4.length c0_4] 38 (0, 0)) (by (with_reducible repeat (first | refine blk_drewN ?_ _ | refine blk_drew ?_ | refine blk_alloc ?_ _)); exact BK500.out)) : gb505 ≠ gb500)); clear BK500; clear HB; have BK500 := n0_; have HB := n1_; have BK505 := n2_; have GW505 := n3_; have GE505 := n4_; have NB500_505 := n5_; have NB505_500 := n6_; clear n0_ n1_ n2_ n3_ n4_ n5_ n6_; clear hb hbox hg; have hnb24 := NB505_500.out; have hnc24 := NB500_505.out; have hcz25_0 : w23.cell? ⟨gb505, 0, none⟩ = some (.slice none 0 0) := (blk_cell BK505.out 0).trans rfl; have hcz25_1 : w23.cell? ⟨gb505, 1, none⟩ = some (.slice none 0 0) := (blk_cell BK505.out 1).trans rfl; have hcz25_2 : w23.cell? ⟨gb505, 2, none⟩ = some (.int .i64 0) := (blk_cell BK505.out 2).trans rfl; have hcz25_3 : w23.cell? ⟨gb505, 3, none⟩ = some (.int .i64 0) := (blk_cell BK505.out 3).trans rfl; have hcz25_4 : w23.cell? ⟨gb505, 4, none⟩ = some (.slice none 0 0) := (blk_cell BK505.out 4).trans rfl; have hcz25_5 : w23.cell? ⟨gb505, 5, none⟩ = some (.slice none 0 0) := (blk_cell BK505.out 5).trans rfl; have hfz25_0 := blk_frozen BK505.out 0; have hfz25_1 := blk_frozen BK505.out 1; have hfz25_2 := blk_frozen BK505.out 2; have hfz25_3 := blk_frozen BK505.out 3; have hfz25_4 := blk_frozen BK505.out 4; have hfz25_5 := blk_frozen BK505.out 5) | (go_at_call 15; (with_reducible refine (quernlaw9_numbers.calls k2 _ _ ((rd_T46 l0_4 x6_2).f0) (l0_3.length : Int) true _ ?side1 ?side2 A14.out).mono ?_); (case side1 => exact Kd.C_below HR504_0.out (by repeat (first | (with_reducible first | exact HB.out | apply below_alloc | apply pw_below_drewN | apply below_drew1 | refine below_set ?_ GE500.out | refine below_set ?_ GE505.out) | exact HB.out))); (case side2 => exact HC504_0.out); rintro e w' ⟨rfl, ⟨nd, rfl⟩⟩) | (go_at_call 15; (with_reducible refine (quernlaw9_numbers.calls k2 _ _ ((rd_T46 l0_4 x6_2).f1) (l0_3.length : Int) true _ ?side1 ?side2 A16.out).mono ?_); (case side1 => exact Kd.C_below HR504_1.out (by repeat (first | (with_reducible first | exact HB.out | apply below_alloc | apply pw_below_drewN | apply below_drew1 | refine below_set ?_ GE500.out | refine below_set ?_ GE505.out) | exact HB.out))); (case side2 => exact HC504_1.out); rintro e w' ⟨rfl, ⟨nd, rfl⟩⟩; have hcz26_0 : w23.cell? ⟨gb500, 0, none⟩ = some (.string a0_0) := (blk_cell BK500.out 0).trans rfl; have hcz26_1 : w23.cell? ⟨gb500, 1, none⟩ = some (.slice A0_1 l0_1.length c0_1) := (blk_cell BK500.out 1).trans rfl; have hcz26_2 : w23.cell? ⟨gb500, 2, none⟩ = some (.int .i64 a0_2) := (blk_cell BK500.out 2).trans rfl; have hcz26_3 : w23.cell? ⟨gb500, 3, none⟩ = some (.slice A0_3 l0_3.length c0_3) := (blk_cell BK500.out 3).trans rfl; have hcz26_4 : w23.cell? ⟨gb500, 4, none⟩ = some (.slice (some ad504) l0_4.length c0_4) := (blk_cell BK500.out 4).trans rfl; have hfz26_0 := blk_frozen BK500.out 0; have hfz26_1 := blk_frozen BK500.out 1; have hfz26_2 := blk_frozen BK500.out 2; have hfz26_3 := blk_frozen BK500.out 3; have hfz26_4 := blk_frozen BK500.out 4) | (go_at_call 15; (with_reducible refine (quernlaw9_numbers.calls k2 _ _ ((rd_T46 l0_4 x6_2).f3) (l0_4.length : Int) true _ ?side1 ?side2 A19.out).mono ?_); (case side1 => exact Kd.C_below HR504_5.out (by repeat (first | (with_reducible first | exact HB.out | apply below_alloc | apply pw_below_drewN | apply below_drew1 | refine below_set ?_ GE500.out | refine below_set ?_ GE505.out) | exact HB.out))); (case side2 => exact HC504_5.out); rintro e w' ⟨rfl, ⟨nd, rfl⟩⟩) | (go_at_call 15; (with_reducible refine (quernlaw9_numbers.calls k2 _ _ ((rd_T46 l0_4 x6_2).f2.f2) (l0_4.length : Int) t509 _ ?side1 ?side2 A21.out).mono ?_); (case side1 => exact Kd.C_below HR504_4.out (by repeat (first | (with_reducible first | exact HB.out | apply below_alloc | apply pw_below_drewN | apply below_drew1 | refine below_set ?_ GE500.out | refine below_set ?_ GE505.out) | exact HB.out))); (case side2 => exact HC504_4.out); rintro e w' ⟨rfl, ⟨nd, rfl⟩⟩))
             go_roundg k2
             case measure => have := HK1.out; have := HK2.out; omega
             case rel => exact ⟨(t509), (wrap64 (x6_2 + 1)), (by first | rfl | (simp; done) | (simp [*]; done)), (by first | rfl | (simp; done) | (simp [*]; done)), H', ⟨by have := HK1.out; have := HK2.out; omega⟩, ⟨by (with_reducible repeat (first | refine blk_drewN ?_ _ | refine blk_drew ?_ | refine blk_alloc ?_ _)); refine blk_far ?_ NB500_505.out _; (with_reducible repeat (first | refine blk_drewN ?_ _ | refine blk_drew ?_ | refine blk_alloc ?_ _)); refine blk_far ?_ NB500_505.out _; (with_reducible repeat (first | refine blk_drewN ?_ _ | refine blk_drew ?_ | refine blk_alloc ?_ _)); refine blk_far ?_ NB500_505.out _; (with_reducible repeat (first | refine blk_drewN ?_ _ | refine blk_drew ?_ | refine blk_alloc ?_ _)); refine blk_far ?_ NB500_505.out _; (with_reducible repeat (first | refine blk_drewN ?_ _ | refine blk_drew ?_ | refine blk_alloc ?_ _)); refine blk_far ?_ NB500_505.out _; (with_reducible repeat (first | refine blk_drewN ?_ _ | refine blk_drew ?_ | refine blk_alloc ?_ _)); refine blk_far ?_ NB500_505.out _; (with_reducible repeat (first | refine blk_drewN ?_ _ | refine blk_drew ?_ | refine blk_alloc ?_ _)); exact BK500.out⟩, ⟨by repeat (first | (with_reducible first | exact HB.out | apply below_alloc | apply pw_below_drewN | apply below_drew1 | refine below_set ?_ GE500.out | refine below_set ?_ GE505.out) | exact HB.out)⟩⟩
            ·replace c20 := Bool.eq_false_iff.mpr c20
             subst c20
             have H1 : (quernlaw9_ranges.l1 k2 (l0_3.length : Int) false (wrap64 (x6_2 + 1)) a0_0 l0_1 a0_2 l0_3 l0_4) = some r := by rw [if_neg (show ¬ (false = true) by decide)] at H; exact H
             clear H
             have H := H1
             clear H1
             have H' := Aside0.mk H
             clear H
             have hcz27_0 : wr.cell? ⟨gb500, 0, none⟩ = some (.string a0_0) := (blk_cell BK500.out 0).trans rfl
             have hcz27_1 : wr.cell? ⟨gb500, 1, none⟩ = some (.slice A0_1 l0_1.length c0_1) := (blk_cell BK500.out 1).trans rfl
             have hcz27_2 : wr.cell? ⟨gb500, 2, none⟩ = some (.int .i64 a0_2) := (blk_cell BK500.out 2).trans rfl
             have hcz27_3 : wr.cell? ⟨gb500, 3, none⟩ = some (.slice A0_3 l0_3.length c0_3) := (blk_cell BK500.out 3).trans rfl
             have hcz27_4 : wr.cell? ⟨gb500, 4, none⟩ = some (.slice A0_4 l0_4.length c0_4) := (blk_cell BK500.out 4).trans rfl
             have hfz27_0 := blk_frozen BK500.out 0
             have hfz27_1 := blk_frozen BK500.out 1
             have hfz27_2 := blk_frozen BK500.out 2
             have hfz27_3 := blk_frozen BK500.out 3
             have hfz27_4 := blk_frozen BK500.out 4
             have p504 : 0 ≤ (x6_2 : Int) := of_decide_eq_true (by first | (with_reducible assumption) | assumption)
             have q504 : x6_2 < (l0_4.length : Int) := of_decide_eq_true (by first | (with_reducible assumption) | assumption)
             obtain ⟨ad504, A504_0, c504_0, A504_1, c504_1, A504_4, c504_4, A504_5, c504_5, e504, hx504_0, hx504_1, hx504_2, hx504_3, hx504_4, hx504_5, hl504_0, hi504_0, hl504_1, hi504_1, hl504_4, hi504_4, hl504_5, hi504_5⟩ := at_T46 HR0_4.out x6_2 p504 q504
             cases e504
             replace hx504_0 := cellA HB hx504_0
             replace hx504_1 := cellA HB hx504_1
             replace hx504_2 := cellA HB hx504_2
             replace hx504_3 := cellA HB hx504_3
             replace hx504_4 := cellA HB hx504_4
             replace hx504_5 := cellA HB hx504_5
             have HR504_0 := Aside0.mk hi504_0
             have HC504_0 := Aside0.mk hl504_0
             clear hi504_0 hl504_0
             have HR504_1 := Aside0.mk hi504_1
             have HC504_1 := Aside0.mk hl504_1
             clear hi504_1 hl504_1
             have HR504_4 := Aside0.mk hi504_4
             have HC504_4 := Aside0.mk hl504_4
             clear hi504_4 hl504_4
             have HR504_5 := Aside0.mk hi504_5
             have HC504_5 := Aside0.mk hl504_5
             clear hi504_5 hl504_5
             replace p504 := eq_true p504
             replace q504 := eq_true q504
             go_wp2_with (first | ((with_reducible refine gate_dst (N := 7) rfl ?_); (try (refine gate_guard (by rfl) ?_; dsimp only)); refine box_event ?hg (N := 7) ?hd (cs := #[.slice none 0 0, .slice none 0 0, .int .i64 0, .int .i64 0, .slice none 0 0, .slice none 0 0]) (t := 46) ?hr ?_; (case hd => rfl); (case hg => rfl); (case hr => first | (go_simp; done) | (go_simp; rfl)); intro gb505 hg w28 hbox hb; have n0_ := Aside0.mk (blk_below (g := gb500) (o := .cells #[.string a0_0, .slice A0_1 l0_1.length c0_1, .int .i64 a0_2, .slice A0_3 l0_3.length c0_3, .slice (some ad504) l0_4.length c0_4] 38 (0, 0)) (by (with_reducible repeat (first | refine blk_drewN ?_ _ | refine blk_drew ?_ | refine blk_alloc ?_ _)); exact BK500.out) hb); have n1_ := Aside0.mk (below_step (by repeat (first | (with_reducible first | exact HB.out | apply below_alloc | apply pw_below_drewN | apply below_drew1 | refine below_set ?_ GE500.out) | exact HB.out)) hb); have n2_ := Aside0.mk (hbox); have n3_ := Aside0.mk ((by rw [hg]; exact (below_size (by repeat (first | (with_reducible first | exact HB.out | apply below_alloc | apply pw_below_drewN | apply below_drew1 | refine below_set ?_ GE500.out) | exact HB.out))) : w.heap.size ≤ gb505)); have n4_ := Aside0.mk ((by rw [hg]; exact (below_size (by repeat (first | (with_reducible first | exact HB.out | apply below_alloc | apply pw_below_drewN | apply below_drew1 | refine below_set ?_ GE500.out) | exact HB.out))) : w.heap.size ≤ gb505)); have n5_ := Aside0.mk ((by rw [hg]; exact Nat.ne_of_lt (blk_lt (g := gb500) (o := .cells #[.string a0_0, .slice A0_1 l0_1.length c0_1, .int .i64 a0_2, .slice A0_3 l0_3.length c0_3, .slice (some ad504) l0_4.length c0_4] 38 (0, 0)) (by (with_reducible repeat (first | refine blk_drewN ?_ _ | refine blk_drew ?_ | refine blk_alloc ?_ _)); exact BK500.out)) : gb500 ≠ gb505)); have n6_ := Aside0.mk ((by rw [hg]; exact Nat.ne_of_gt (blk_lt (g := gb500) (o := .cells #[.string a0_0, .slice A0_1 l0_1.length c0_1, .int .i64 a0_2, .slice A0_3 l0_3.length c0_3, .slice (some ad504) l0_4.length c0_4] 38 (0, 0)) (by (with_reducible repeat (first | refine blk_drewN ?_ _ | refine blk_drew ?_ | refine blk_alloc ?_ _)); exact BK500.out)) : gb505 ≠ gb500)); clear BK500; clear HB; have BK500 := n0_; have HB := n1_; have BK505 := n2_; have GW505 := n3_; have GE505 := n4_; have NB500_505 := n5_; have NB505_500 := n6_; clear n0_ n1_ n2_ n3_ n4_ n5_ n6_; clear hb hbox hg; have hnb29 := NB505_500.out; have hnc29 := NB500_505.out; have hcz30_0 : w28.cell? ⟨gb505, 0, none⟩ = some (.slice none 0 0) := (blk_cell BK505.out 0).trans rfl; have hcz30_1 : w28.cell? ⟨gb505, 1, none⟩ = some (.slice none 0 0) := (blk_cell BK505.out 1).trans rfl; have hcz30_2 : w28.cell? ⟨gb505, 2, none⟩ = some (.int .i64 0) := (blk_cell BK505.out 2).trans rfl; have hcz30_3 : w28.cell? ⟨gb505, 3, none⟩ = some (.int .i64 0) := (blk_cell BK505.out 3).trans rfl; have hcz30_4 : w28.cell? ⟨gb505, 4, none⟩ = some (.slice none 0 0) := (blk_cell BK505.out 4).trans rfl; have hcz30_5 : w28.cell? ⟨gb505, 5, none⟩ = some (.slice none 0 0) := (blk_cell BK505.out 5).trans rfl; have hfz30_0 := blk_frozen BK505.out 0; have hfz30_1 := blk_frozen BK505.out 1; have hfz30_2 := blk_frozen BK505.out 2; have hfz30_3 := blk_frozen BK505.out 3; have hfz30_4 := blk_frozen BK505.out 4; have hfz30_5 := blk_frozen BK505.out 5) | (go_at_call 15; (with_reducible refine (quernlaw9_numbers.calls k2 _ _ ((rd_T46 l0_4 x6_2).f0) (l0_3.length : Int) true _ ?side1 ?side2 A14.out).mono ?_); (case side1 => exact Kd.C_below HR504_0.out (by repeat (first | (with_reducible first | exact HB.out | apply below_alloc | apply pw_below_drewN | apply below_drew1 | refine below_set ?_ GE500.out | refine below_set ?_ GE505.out) | exact HB.out))); (case side2 => exact HC504_0.out); rintro e w' ⟨rfl, ⟨nd, rfl⟩⟩) | (go_at_call 15; (with_reducible refine (quernlaw9_numbers.calls k2 _ _ ((rd_T46 l0_4 x6_2).f1) (l0_3.length : Int) true _ ?side1 ?side2 A16.out).mono ?_); (case side1 => exact Kd.C_below HR504_1.out (by repeat (first | (with_reducible first | exact HB.out | apply below_alloc | apply pw_below_drewN | apply below_drew1 | refine below_set ?_ GE500.out | refine below_set ?_ GE505.out) | exact HB.out))); (case side2 => exact HC504_1.out); rintro e w' ⟨rfl, ⟨nd, rfl⟩⟩; have hcz31_0 : w28.cell? ⟨gb500, 0, none⟩ = some (.string a0_0) := (blk_cell BK500.out 0).trans rfl; have hcz31_1 : w28.cell? ⟨gb500, 1, none⟩ = some (.slice A0_1 l0_1.length c0_1) := (blk_cell BK500.out 1).trans rfl; have hcz31_2 : w28.cell? ⟨gb500, 2, none⟩ = some (.int .i64 a0_2) := (blk_cell BK500.out 2).trans rfl; have hcz31_3 : w28.cell? ⟨gb500, 3, none⟩ = some (.slice A0_3 l0_3.length c0_3) := (blk_cell BK500.out 3).trans rfl; have hcz31_4 : w28.cell? ⟨gb500, 4, none⟩ = some (.slice (some ad504) l0_4.length c0_4) := (blk_cell BK500.out 4).trans rfl; have hfz31_0 := blk_frozen BK500.out 0; have hfz31_1 := blk_frozen BK500.out 1; have hfz31_2 := blk_frozen BK500.out 2; have hfz31_3 := blk_frozen BK500.out 3; have hfz31_4 := blk_frozen BK500.out 4) | (go_at_call 15; (with_reducible refine (quernlaw9_numbers.calls k2 _ _ ((rd_T46 l0_4 x6_2).f3) (l0_4.length : Int) false _ ?side1 ?side2 A19.out).mono ?_); (case side1 => exact Kd.C_below HR504_5.out (by repeat (first | (with_reducible first | exact HB.out | apply below_alloc | apply pw_below_drewN | apply below_drew1 | refine below_set ?_ GE500.out | refine below_set ?_ GE505.out) | exact HB.out))); (case side2 => exact HC504_5.out); rintro e w' ⟨rfl, ⟨nd, rfl⟩⟩))
             go_roundg k2
             case measure => have := HK1.out; have := HK2.out; omega
             case rel => exact ⟨(false), (wrap64 (x6_2 + 1)), (by first | rfl | (simp; done) | (simp [*]; done)), (by first | rfl | (simp; done) | (simp [*]; done)), H', ⟨by have := HK1.out; have := HK2.out; omega⟩, ⟨by (with_reducible repeat (first | refine blk_drewN ?_ _ | refine blk_drew ?_ | refine blk_alloc ?_ _)); refine blk_far ?_ NB500_505.out _; (with_reducible repeat (first | refine blk_drewN ?_ _ | refine blk_drew ?_ | refine blk_alloc ?_ _)); refine blk_far ?_ NB500_505.out _; (with_reducible repeat (first | refine blk_drewN ?_ _ | refine blk_drew ?_ | refine blk_alloc ?_ _)); refine blk_far ?_ NB500_505.out _; (with_reducible repeat (first | refine blk_drewN ?_ _ | refine blk_drew ?_ | refine blk_alloc ?_ _)); refine blk_far ?_ NB500_505.out _; (with_reducible repeat (first | refine blk_drewN ?_ _ | refine blk_drew ?_ | refine blk_alloc ?_ _)); refine blk_far ?_ NB500_505.out _; (with_reducible repeat (first | refine blk_drewN ?_ _ | refine blk_drew ?_ | refine blk_alloc ?_ _)); refine blk_far ?_ NB500_505.out _; (with_reducible repeat (first | refine blk_drewN ?_ _ | refine blk_drew ?_ | refine blk_alloc ?_ _)); exact BK500.out⟩, ⟨by repeat (first | (with_reducible first | exact HB.out | apply below_alloc | apply pw_below_drewN | apply below_drew1 | refine below_set ?_ GE500.out | refine below_set ?_ GE505.out) | exact HB.out)⟩⟩
           ·rw [if_neg c18] at H
            have c18b0 : decide (((rd_T46 l0_4 x6_2).f2.f1) < (l0_3.length : Int)) = false := decide_eq_false c18
            clear c18
            have H' := Aside0.mk H
            clear H
            have hcz32_0 : wr.cell? ⟨gb500, 0, none⟩ = some (.string a0_0) := (blk_cell BK500.out 0).trans rfl
            have hcz32_1 : wr.cell? ⟨gb500, 1, none⟩ = some (.slice A0_1 l0_1.length c0_1) := (blk_cell BK500.out 1).trans rfl
            have hcz32_2 : wr.cell? ⟨gb500, 2, none⟩ = some (.int .i64 a0_2) := (blk_cell BK500.out 2).trans rfl
            have hcz32_3 : wr.cell? ⟨gb500, 3, none⟩ = some (.slice A0_3 l0_3.length c0_3) := (blk_cell BK500.out 3).trans rfl
            have hcz32_4 : wr.cell? ⟨gb500, 4, none⟩ = some (.slice A0_4 l0_4.length c0_4) := (blk_cell BK500.out 4).trans rfl
            have hfz32_0 := blk_frozen BK500.out 0
            have hfz32_1 := blk_frozen BK500.out 1
            have hfz32_2 := blk_frozen BK500.out 2
            have hfz32_3 := blk_frozen BK500.out 3
            have hfz32_4 := blk_frozen BK500.out 4
            have p504 : 0 ≤ (x6_2 : Int) := of_decide_eq_true (by first | (with_reducible assumption) | assumption)
            have q504 : x6_2 < (l0_4.length : Int) := of_decide_eq_true (by first | (with_reducible assumption) | assumption)
            obtain ⟨ad504, A504_0, c504_0, A504_1, c504_1, A504_4, c504_4, A504_5, c504_5, e504, hx504_0, hx504_1, hx504_2, hx504_3, hx504_4, hx504_5, hl504_0, hi504_0, hl504_1, hi504_1, hl504_4, hi504_4, hl504_5, hi504_5⟩ := at_T46 HR0_4.out x6_2 p504 q504
            cases e504
            replace hx504_0 := cellA HB hx504_0
            replace hx504_1 := cellA HB hx504_1
            replace hx504_2 := cellA HB hx504_2
            replace hx504_3 := cellA HB hx504_3
            replace hx504_4 := cellA HB hx504_4
            replace hx504_5 := cellA HB hx504_5
            have HR504_0 := Aside0.mk hi504_0
            have HC504_0 := Aside0.mk hl504_0
            clear hi504_0 hl504_0
            have HR504_1 := Aside0.mk hi504_1
            have HC504_1 := Aside0.mk hl504_1
            clear hi504_1 hl504_1
            have HR504_4 := Aside0.mk hi504_4
            have HC504_4 := Aside0.mk hl504_4
            clear hi504_4 hl504_4
            have HR504_5 := Aside0.mk hi504_5
            have HC504_5 := Aside0.mk hl504_5
            clear hi504_5 hl504_5
            replace p504 := eq_true p504
            replace q504 := eq_true q504
            go_wp2_with (first | ((with_reducible refine gate_dst (N := 7) rfl ?_); (try (refine gate_guard (by rfl) ?_; dsimp only)); refine box_event ?hg (N := 7) ?hd (cs := #[.slice none 0 0, .slice none 0 0, .int .i64 0, .int .i64 0, .slice none 0 0, .slice none 0 0]) (t := 46) ?hr ?_; (case hd => rfl); (case hg => rfl); (case hr => first | (go_simp; done) | (go_simp; rfl)); intro gb505 hg w33 hbox hb; have n0_ := Aside0.mk (blk_below (g := gb500) (o := .cells #[.string a0_0, .slice A0_1 l0_1.length c0_1, .int .i64 a0_2, .slice A0_3 l0_3.length c0_3, .slice (some ad504) l0_4.length c0_4] 38 (0, 0)) (by (with_reducible repeat (first | refine blk_drewN ?_ _ | refine blk_drew ?_ | refine blk_alloc ?_ _)); exact BK500.out) hb); have n1_ := Aside0.mk (below_step (by repeat (first | (with_reducible first | exact HB.out | apply below_alloc | apply pw_below_drewN | apply below_drew1 | refine below_set ?_ GE500.out) | exact HB.out)) hb); have n2_ := Aside0.mk (hbox); have n3_ := Aside0.mk ((by rw [hg]; exact (below_size (by repeat (first | (with_reducible first | exact HB.out | apply below_alloc | apply pw_below_drewN | apply below_drew1 | refine below_set ?_ GE500.out) | exact HB.out))) : w.heap.size ≤ gb505)); have n4_ := Aside0.mk ((by rw [hg]; exact (below_size (by repeat (first | (with_reducible first | exact HB.out | apply below_alloc | apply pw_below_drewN | apply below_drew1 | refine below_set ?_ GE500.out) | exact HB.out))) : w.heap.size ≤ gb505)); have n5_ := Aside0.mk ((by rw [hg]; exact Nat.ne_of_lt (blk_lt (g := gb500) (o := .cells #[.string a0_0, .slice A0_1 l0_1.length c0_1, .int .i64 a0_2, .slice A0_3 l0_3.length c0_3, .slice (some ad504) l0_4.length c0_4] 38 (0, 0)) (by (with_reducible repeat (first | refine blk_drewN ?_ _ | refine blk_drew ?_ | refine blk_alloc ?_ _)); exact BK500.out)) : gb500 ≠ gb505)); have n6_ := Aside0.mk ((by rw [hg]; exact Nat.ne_of_gt (blk_lt (g := gb500) (o := .cells #[.string a0_0, .slice A0_1 l0_1.length c0_1, .int .i64 a0_2, .slice A0_3 l0_3.length c0_3, .slice (some ad504) l0_4.length c0_4] 38 (0, 0)) (by (with_reducible repeat (first | refine blk_drewN ?_ _ | refine blk_drew ?_ | refine blk_alloc ?_ _)); exact BK500.out)) : gb505 ≠ gb500)); clear BK500; clear HB; have BK500 := n0_; have HB := n1_; have BK505 := n2_; have GW505 := n3_; have GE505 := n4_; have NB500_505 := n5_; have NB505_500 := n6_; clear n0_ n1_ n2_ n3_ n4_ n5_ n6_; clear hb hbox hg; have hnb34 := NB505_500.out; have hnc34 := NB500_505.out; have hcz35_0 : w33.cell? ⟨gb505, 0, none⟩ = some (.slice none 0 0) := (blk_cell BK505.out 0).trans rfl; have hcz35_1 : w33.cell? ⟨gb505, 1, none⟩ = some (.slice none 0 0) := (blk_cell BK505.out 1).trans rfl; have hcz35_2 : w33.cell? ⟨gb505, 2, none⟩ = some (.int .i64 0) := (blk_cell BK505.out 2).trans rfl; have hcz35_3 : w33.cell? ⟨gb505, 3, none⟩ = some (.int .i64 0) := (blk_cell BK505.out 3).trans rfl; have hcz35_4 : w33.cell? ⟨gb505, 4, none⟩ = some (.slice none 0 0) := (blk_cell BK505.out 4).trans rfl; have hcz35_5 : w33.cell? ⟨gb505, 5, none⟩ = some (.slice none 0 0) := (blk_cell BK505.out 5).trans rfl; have hfz35_0 := blk_frozen BK505.out 0; have hfz35_1 := blk_frozen BK505.out 1; have hfz35_2 := blk_frozen BK505.out 2; have hfz35_3 := blk_frozen BK505.out 3; have hfz35_4 := blk_frozen BK505.out 4; have hfz35_5 := blk_frozen BK505.out 5) | (go_at_call 15; (with_reducible refine (quernlaw9_numbers.calls k2 _ _ ((rd_T46 l0_4 x6_2).f0) (l0_3.length : Int) true _ ?side1 ?side2 A14.out).mono ?_); (case side1 => exact Kd.C_below HR504_0.out (by repeat (first | (with_reducible first | exact HB.out | apply below_alloc | apply pw_below_drewN | apply below_drew1 | refine below_set ?_ GE500.out | refine below_set ?_ GE505.out) | exact HB.out))); (case side2 => exact HC504_0.out); rintro e w' ⟨rfl, ⟨nd, rfl⟩⟩) | (go_at_call 15; (with_reducible refine (quernlaw9_numbers.calls k2 _ _ ((rd_T46 l0_4 x6_2).f1) (l0_3.length : Int) true _ ?side1 ?side2 A16.out).mono ?_); (case side1 => exact Kd.C_below HR504_1.out (by repeat (first | (with_reducible first | exact HB.out | apply below_alloc | apply pw_below_drewN | apply below_drew1 | refine below_set ?_ GE500.out | refine below_set ?_ GE505.out) | exact HB.out))); (case side2 => exact HC504_1.out); rintro e w' ⟨rfl, ⟨nd, rfl⟩⟩))
            go_roundg k2
            case measure => have := HK1.out; have := HK2.out; omega
            case rel => exact ⟨(false), (wrap64 (x6_2 + 1)), (by first | rfl | (simp; done) | (simp [*]; done)), (by first | rfl | (simp; done) | (simp [*]; done)), H', ⟨by have := HK1.out; have := HK2.out; omega⟩, ⟨by (with_reducible repeat (first | refine blk_drewN ?_ _ | refine blk_drew ?_ | refine blk_alloc ?_ _)); refine blk_far ?_ NB500_505.out _; (with_reducible repeat (first | refine blk_drewN ?_ _ | refine blk_drew ?_ | refine blk_alloc ?_ _)); refine blk_far ?_ NB500_505.out _; (with_reducible repeat (first | refine blk_drewN ?_ _ | refine blk_drew ?_ | refine blk_alloc ?_ _)); refine blk_far ?_ NB500_505.out _; (with_reducible repeat (first | refine blk_drewN ?_ _ | refine blk_drew ?_ | refine blk_alloc ?_ _)); refine blk_far ?_ NB500_505.out _; (with_reducible repeat (first | refine blk_drewN ?_ _ | refine blk_drew ?_ | refine blk_alloc ?_ _)); refine blk_far ?_ NB500_505.out _; (with_reducible repeat (first | refine blk_drewN ?_ _ | refine blk_drew ?_ | refine blk_alloc ?_ _)); refine blk_far ?_ NB500_505.out _; (with_reducible repeat (first | refine blk_drewN ?_ _ | refine blk_drew ?_ | refine blk_alloc ?_ _)); exact BK500.out⟩, ⟨by repeat (first | (with_reducible first | exact HB.out | apply below_alloc | apply pw_below_drewN | apply below_drew1 | refine below_set ?_ GE500.out | refine below_set ?_ GE505.out) | exact HB.out)⟩⟩
          ·replace c17 := Bool.eq_false_iff.mpr c17
           subst c17
           have H1 : (quernlaw9_ranges.l1 k2 (l0_3.length : Int) false (wrap64 (x6_2 + 1)) a0_0 l0_1 a0_2 l0_3 l0_4) = some r := by rw [if_neg (show ¬ (false = true) by decide)] at H; exact H
           clear H
           have H := H1
           clear H1
           have H' := Aside0.mk H
           clear H
           have hcz36_0 : wr.cell? ⟨gb500, 0, none⟩ = some (.string a0_0) := (blk_cell BK500.out 0).trans rfl
           have hcz36_1 : wr.cell? ⟨gb500, 1, none⟩ = some (.slice A0_1 l0_1.length c0_1) := (blk_cell BK500.out 1).trans rfl
           have hcz36_2 : wr.cell? ⟨gb500, 2, none⟩ = some (.int .i64 a0_2) := (blk_cell BK500.out 2).trans rfl
           have hcz36_3 : wr.cell? ⟨gb500, 3, none⟩ = some (.slice A0_3 l0_3.length c0_3) := (blk_cell BK500.out 3).trans rfl
           have hcz36_4 : wr.cell? ⟨gb500, 4, none⟩ = some (.slice A0_4 l0_4.length c0_4) := (blk_cell BK500.out 4).trans rfl
           have hfz36_0 := blk_frozen BK500.out 0
           have hfz36_1 := blk_frozen BK500.out 1
           have hfz36_2 := blk_frozen BK500.out 2
           have hfz36_3 := blk_frozen BK500.out 3
           have hfz36_4 := blk_frozen BK500.out 4
           have p504 : 0 ≤ (x6_2 : Int) := of_decide_eq_true (by first | (with_reducible assumption) | assumption)
           have q504 : x6_2 < (l0_4.length : Int) := of_decide_eq_true (by first | (with_reducible assumption) | assumption)
           obtain ⟨ad504, A504_0, c504_0, A504_1, c504_1, A504_4, c504_4, A504_5, c504_5, e504, hx504_0, hx504_1, hx504_2, hx504_3, hx504_4, hx504_5, hl504_0, hi504_0, hl504_1, hi504_1, hl504_4, hi504_4, hl504_5, hi504_5⟩ := at_T46 HR0_4.out x6_2 p504 q504
           cases e504
           replace hx504_0 := cellA HB hx504_0
           replace hx504_1 := cellA HB hx504_1
           replace hx504_2 := cellA HB hx504_2
           replace hx504_3 := cellA HB hx504_3
           replace hx504_4 := cellA HB hx504_4
           replace hx504_5 := cellA HB hx504_5
           have HR504_0 := Aside0.mk hi504_0
           have HC504_0 := Aside0.mk hl504_0
           clear hi504_0 hl504_0
           have HR504_1 := Aside0.mk hi504_1
           have HC504_1 := Aside0.mk hl504_1
           clear hi504_1 hl504_1
           have HR504_4 := Aside0.mk hi504_4
           have HC504_4 := Aside0.mk hl504_4
           clear hi504_4 hl504_4
           have HR504_5 := Aside0.mk hi504_5
           have HC504_5 := Aside0.mk hl504_5
           clear hi504_5 hl504_5
           replace p504 := eq_true p504
           replace q504 := eq_true q504
           go_wp2_with (first | ((with_reducible refine gate_dst (N := 7) rfl ?_); (try (refine gate_guard (by rfl) ?_; dsimp only)); refine box_event ?hg (N := 7) ?hd (cs := #[.slice none 0 0, .slice none 0 0, .int .i64 0, .int .i64 0, .slice none 0 0, .slice none 0 0]) (t := 46) ?hr ?_; (case hd => rfl); (case hg => rfl); (case hr => first | (go_simp; done) | (go_simp; rfl)); intro gb505 hg w37 hbox hb; have n0_ := Aside0.mk (blk_below (g := gb500) (o := .cells #[.string a0_0, .slice A0_1 l0_1.length c0_1, .int .i64 a0_2, .slice A0_3 l0_3.length c0_3, .slice (some ad504) l0_4.length c0_4] 38 (0, 0)) (by (with_reducible repeat (first | refine blk_drewN ?_ _ | refine blk_drew ?_ | refine blk_alloc ?_ _)); exact BK500.out) hb); have n1_ := Aside0.mk (below_step (by repeat (first | (with_reducible first | exact HB.out | apply below_alloc | apply pw_below_drewN | apply below_drew1 | refine below_set ?_ GE500.out) | exact HB.out)) hb); have n2_ := Aside0.mk (hbox); have n3_ := Aside0.mk ((by rw [hg]; exact (below_size (by repeat (first | (with_reducible first | exact HB.out | apply below_alloc | apply pw_below_drewN | apply below_drew1 | refine below_set ?_ GE500.out) | exact HB.out))) : w.heap.size ≤ gb505)); have n4_ := Aside0.mk ((by rw [hg]; exact (below_size (by repeat (first | (with_reducible first | exact HB.out | apply below_alloc | apply pw_below_drewN | apply below_drew1 | refine below_set ?_ GE500.out) | exact HB.out))) : w.heap.size ≤ gb505)); have n5_ := Aside0.mk ((by rw [hg]; exact Nat.ne_of_lt (blk_lt (g := gb500) (o := .cells #[.string a0_0, .slice A0_1 l0_1.length c0_1, .int .i64 a0_2, .slice A0_3 l0_3.length c0_3, .slice (some ad504) l0_4.length c0_4] 38 (0, 0)) (by (with_reducible repeat (first | refine blk_drewN ?_ _ | refine blk_drew ?_ | refine blk_alloc ?_ _)); exact BK500.out)) : gb500 ≠ gb505)); have n6_ := Aside0.mk ((by rw [hg]; exact Nat.ne_of_gt (blk_lt (g := gb500) (o := .cells #[.string a0_0, .slice A0_1 l0_1.length c0_1, .int .i64 a0_2, .slice A0_3 l0_3.length c0_3, .slice (some ad504) l0_4.length c0_4] 38 (0, 0)) (by (with_reducible repeat (first | refine blk_drewN ?_ _ | refine blk_drew ?_ | refine blk_alloc ?_ _)); exact BK500.out)) : gb505 ≠ gb500)); clear BK500; clear HB; have BK500 := n0_; have HB := n1_; have BK505 := n2_; have GW505 := n3_; have GE505 := n4_; have NB500_505 := n5_; have NB505_500 := n6_; clear n0_ n1_ n2_ n3_ n4_ n5_ n6_; clear hb hbox hg; have hnb38 := NB505_500.out; have hnc38 := NB500_505.out; have hcz39_0 : w37.cell? ⟨gb505, 0, none⟩ = some (.slice none 0 0) := (blk_cell BK505.out 0).trans rfl; have hcz39_1 : w37.cell? ⟨gb505, 1, none⟩ = some (.slice none 0 0) := (blk_cell BK505.out 1).trans rfl; have hcz39_2 : w37.cell? ⟨gb505, 2, none⟩ = some (.int .i64 0) := (blk_cell BK505.out 2).trans rfl; have hcz39_3 : w37.cell? ⟨gb505, 3, none⟩ = some (.int .i64 0) := (blk_cell BK505.out 3).trans rfl; have hcz39_4 : w37.cell? ⟨gb505, 4, none⟩ = some (.slice none 0 0) := (blk_cell BK505.out 4).trans rfl; have hcz39_5 : w37.cell? ⟨gb505, 5, none⟩ = some (.slice none 0 0) := (blk_cell BK505.out 5).trans rfl; have hfz39_0 := blk_frozen BK505.out 0; have hfz39_1 := blk_frozen BK505.out 1; have hfz39_2 := blk_frozen BK505.out 2; have hfz39_3 := blk_frozen BK505.out 3; have hfz39_4 := blk_frozen BK505.out 4; have hfz39_5 := blk_frozen BK505.out 5) | (go_at_call 15; (with_reducible refine (quernlaw9_numbers.calls k2 _ _ ((rd_T46 l0_4 x6_2).f0) (l0_3.length : Int) true _ ?side1 ?side2 A14.out).mono ?_); (case side1 => exact Kd.C_below HR504_0.out (by repeat (first | (with_reducible first | exact HB.out | apply below_alloc | apply pw_below_drewN | apply below_drew1 | refine below_set ?_ GE500.out | refine below_set ?_ GE505.out) | exact HB.out))); (case side2 => exact HC504_0.out); rintro e w' ⟨rfl, ⟨nd, rfl⟩⟩) | (go_at_call 15; (with_reducible refine (quernlaw9_numbers.calls k2 _ _ ((rd_T46 l0_4 x6_2).f1) (l0_3.length : Int) false _ ?side1 ?side2 A16.out).mono ?_); (case side1 => exact Kd.C_below HR504_1.out (by repeat (first | (with_reducible first | exact HB.out | apply below_alloc | apply pw_below_drewN | apply below_drew1 | refine below_set ?_ GE500.out | refine below_set ?_ GE505.out) | exact HB.out))); (case side2 => exact HC504_1.out); rintro e w' ⟨rfl, ⟨nd, rfl⟩⟩))
           go_roundg k2
           case measure => have := HK1.out; have := HK2.out; omega
           case rel => exact ⟨(false), (wrap64 (x6_2 + 1)), (by first | rfl | (simp; done) | (simp [*]; done)), (by first | rfl | (simp; done) | (simp [*]; done)), H', ⟨by have := HK1.out; have := HK2.out; omega⟩, ⟨by (with_reducible repeat (first | refine blk_drewN ?_ _ | refine blk_drew ?_ | refine blk_alloc ?_ _)); refine blk_far ?_ NB500_505.out _; (with_reducible repeat (first | refine blk_drewN ?_ _ | refine blk_drew ?_ | refine blk_alloc ?_ _)); refine blk_far ?_ NB500_505.out _; (with_reducible repeat (first | refine blk_drewN ?_ _ | refine blk_drew ?_ | refine blk_alloc ?_ _)); refine blk_far ?_ NB500_505.out _; (with_reducible repeat (first | refine blk_drewN ?_ _ | refine blk_drew ?_ | refine blk_alloc ?_ _)); refine blk_far ?_ NB500_505.out _; (with_reducible repeat (first | refine blk_drewN ?_ _ | refine blk_drew ?_ | refine blk_alloc ?_ _)); refine blk_far ?_ NB500_505.out _; (with_reducible repeat (first | refine blk_drewN ?_ _ | refine blk_drew ?_ | refine blk_alloc ?_ _)); refine blk_far ?_ NB500_505.out _; (with_reducible repeat (first | refine blk_drewN ?_ _ | refine blk_drew ?_ | refine blk_alloc ?_ _)); exact BK500.out⟩, ⟨by repeat (first | (with_reducible first | exact HB.out | apply below_alloc | apply pw_below_drewN | apply below_drew1 | refine below_set ?_ GE500.out | refine below_set ?_ GE505.out) | exact HB.out)⟩⟩
         ·replace c15 := Bool.eq_false_iff.mpr c15
          subst c15
          have H1 : (quernlaw9_ranges.l1 k2 (l0_3.length : Int) false (wrap64 (x6_2 + 1)) a0_0 l0_1 a0_2 l0_3 l0_4) = some r := by rw [if_neg (show ¬ (false = true) by decide)] at H; exact H
          clear H
          have H := H1
          clear H1
          have H' := Aside0.mk H
          clear H
          have hcz40_0 : wr.cell? ⟨gb500, 0, none⟩ = some (.string a0_0) := (blk_cell BK500.out 0).trans rfl
          have hcz40_1 : wr.cell? ⟨gb500, 1, none⟩ = some (.slice A0_1 l0_1.length c0_1) := (blk_cell BK500.out 1).trans rfl
          have hcz40_2 : wr.cell? ⟨gb500, 2, none⟩ = some (.int .i64 a0_2) := (blk_cell BK500.out 2).trans rfl
          have hcz40_3 : wr.cell? ⟨gb500, 3, none⟩ = some (.slice A0_3 l0_3.length c0_3) := (blk_cell BK500.out 3).trans rfl
          have hcz40_4 : wr.cell? ⟨gb500, 4, none⟩ = some (.slice A0_4 l0_4.length c0_4) := (blk_cell BK500.out 4).trans rfl
          have hfz40_0 := blk_frozen BK500.out 0
          have hfz40_1 := blk_frozen BK500.out 1
          have hfz40_2 := blk_frozen BK500.out 2
          have hfz40_3 := blk_frozen BK500.out 3
          have hfz40_4 := blk_frozen BK500.out 4
          have p504 : 0 ≤ (x6_2 : Int) := of_decide_eq_true (by first | (with_reducible assumption) | assumption)
          have q504 : x6_2 < (l0_4.length : Int) := of_decide_eq_true (by first | (with_reducible assumption) | assumption)
          obtain ⟨ad504, A504_0, c504_0, A504_1, c504_1, A504_4, c504_4, A504_5, c504_5, e504, hx504_0, hx504_1, hx504_2, hx504_3, hx504_4, hx504_5, hl504_0, hi504_0, hl504_1, hi504_1, hl504_4, hi504_4, hl504_5, hi504_5⟩ := at_T46 HR0_4.out x6_2 p504 q504
          cases e504
          replace hx504_0 := cellA HB hx504_0
          replace hx504_1 := cellA HB hx504_1
          replace hx504_2 := cellA HB hx504_2
          replace hx504_3 := cellA HB hx504_3
          replace hx504_4 := cellA HB hx504_4
          replace hx504_5 := cellA HB hx504_5
          have HR504_0 := Aside0.mk hi504_0
          have HC504_0 := Aside0.mk hl504_0
          clear hi504_0 hl504_0
          have HR504_1 := Aside0.mk hi504_1
          have HC504_1 := Aside0.mk hl504_1
          clear hi504_1 hl504_1
          have HR504_4 := Aside0.mk hi504_4
          have HC504_4 := Aside0.mk hl504_4
          clear hi504_4 hl504_4
          have HR504_5 := Aside0.mk hi504_5
          have HC504_5 := Aside0.mk hl504_5
          clear hi504_5 hl504_5
          replace p504 := eq_true p504
          replace q504 := eq_true q504
          go_wp2_with (first | ((with_reducible refine gate_dst (N := 7) rfl ?_); (try (refine gate_guard (by rfl) ?_; dsimp only)); refine box_event ?hg (N := 7) ?hd (cs := #[.slice none 0 0, .slice none 0 0, .int .i64 0, .int .i64 0, .slice none 0 0, .slice none 0 0]) (t := 46) ?hr ?_; (case hd => rfl); (case hg => rfl); (case hr => first | (go_simp; done) | (go_simp; rfl)); intro gb505 hg w41 hbox hb; have n0_ := Aside0.mk (blk_below (g := gb500) (o := .cells #[.string a0_0, .slice A0_1 l0_1.length c0_1, .int .i64 a0_2, .slice A0_3 l0_3.length c0_3, .slice (some ad504) l0_4.length c0_4] 38 (0, 0)) (by (with_reducible repeat (first | refine blk_drewN ?_ _ | refine blk_drew ?_ | refine blk_alloc ?_ _)); exact BK500.out) hb); have n1_ := Aside0.mk (below_step (by repeat (first | (with_reducible first | exact HB.out | apply below_alloc | apply pw_below_drewN | apply below_drew1 | refine below_set ?_ GE500.out) | exact HB.out)) hb); have n2_ := Aside0.mk (hbox); have n3_ := Aside0.mk ((by rw [hg]; exact (below_size (by repeat (first | (with_reducible first | exact HB.out | apply below_alloc | apply pw_below_drewN | apply below_drew1 | refine below_set ?_ GE500.out) | exact HB.out))) : w.heap.size ≤ gb505)); have n4_ := Aside0.mk ((by rw [hg]; exact (below_size (by repeat (first | (with_reducible first | exact HB.out | apply below_alloc | apply pw_below_drewN | apply below_drew1 | refine below_set ?_ GE500.out) | exact HB.out))) : w.heap.size ≤ gb505)); have n5_ := Aside0.mk ((by rw [hg]; exact Nat.ne_of_lt (blk_lt (g := gb500) (o := .cells #[.string a0_0, .slice A0_1 l0_1.length c0_1, .int .i64 a0_2, .slice A0_3 l0_3.length c0_3, .slice (some ad504) l0_4.length c0_4] 38 (0, 0)) (by (with_reducible repeat (first | refine blk_drewN ?_ _ | refine blk_drew ?_ | refine blk_alloc ?_ _)); exact BK500.out)) : gb500 ≠ gb505)); have n6_ := Aside0.mk ((by rw [hg]; exact Nat.ne_of_gt (blk_lt (g := gb500) (o := .cells #[.string a0_0, .slice A0_1 l0_1.length c0_1, .int .i64 a0_2, .slice A0_3 l0_3.length c0_3, .slice (some ad504) l0_4.length c0_4] 38 (0, 0)) (by (with_reducible repeat (first | refine blk_drewN ?_ _ | refine blk_drew ?_ | refine blk_alloc ?_ _)); exact BK500.out)) : gb505 ≠ gb500)); clear BK500; clear HB; have BK500 := n0_; have HB := n1_; have BK505 := n2_; have GW505 := n3_; have GE505 := n4_; have NB500_505 := n5_; have NB505_500 := n6_; clear n0_ n1_ n2_ n3_ n4_ n5_ n6_; clear hb hbox hg; have hnb42 := NB505_500.out; have hnc42 := NB500_505.out; have hcz43_0 : w41.cell? ⟨gb505, 0, none⟩ = some (.slice none 0 0) := (blk_cell BK505.out 0).trans rfl; have hcz43_1 : w41.cell? ⟨gb505, 1, none⟩ = some (.slice none 0 0) := (blk_cell BK505.out 1).trans rfl; have hcz43_2 : w41.cell? ⟨gb505, 2, none⟩ = some (.int .i64 0) := (blk_cell BK505.out 2).trans rfl; have hcz43_3 : w41.cell? ⟨gb505, 3, none⟩ = some (.int .i64 0) := (blk_cell BK505.out 3).trans rfl; have hcz43_4 : w41.cell? ⟨gb505, 4, none⟩ = some (.slice none 0 0) := (blk_cell BK505.out 4).trans rfl; have hcz43_5 : w41.cell? ⟨gb505, 5, none⟩ = some (.slice none 0 0) := (blk_cell BK505.out 5).trans rfl; have hfz43_0 := blk_frozen BK505.out 0; have hfz43_1 := blk_frozen BK505.out 1; have hfz43_2 := blk_frozen BK505.out 2; have hfz43_3 := blk_frozen BK505.out 3; have hfz43_4 := blk_frozen BK505.out 4; have hfz43_5 := blk_frozen BK505.out 5) | (go_at_call 15; (with_reducible refine (quernlaw9_numbers.calls k2 _ _ ((rd_T46 l0_4 x6_2).f0) (l0_3.length : Int) false _ ?side1 ?side2 A14.out).mono ?_); (case side1 => exact Kd.C_below HR504_0.out (by repeat (first | (with_reducible first | exact HB.out | apply below_alloc | apply pw_below_drewN | apply below_drew1 | refine below_set ?_ GE500.out | refine below_set ?_ GE505.out) | exact HB.out))); (case side2 => exact HC504_0.out); rintro e w' ⟨rfl, ⟨nd, rfl⟩⟩))
          go_roundg k2
          case measure => have := HK1.out; have := HK2.out; omega
          case rel => exact ⟨(false), (wrap64 (x6_2 + 1)), (by first | rfl | (simp; done) | (simp [*]; done)), (by first | rfl | (simp; done) | (simp [*]; done)), H', ⟨by have := HK1.out; have := HK2.out; omega⟩, ⟨by (with_reducible repeat (first | refine blk_drewN ?_ _ | refine blk_drew ?_ | refine blk_alloc ?_ _)); refine blk_far ?_ NB500_505.out _; (with_reducible repeat (first | refine blk_drewN ?_ _ | refine blk_drew ?_ | refine blk_alloc ?_ _)); refine blk_far ?_ NB500_505.out _; (with_reducible repeat (first | refine blk_drewN ?_ _ | refine blk_drew ?_ | refine blk_alloc ?_ _)); refine blk_far ?_ NB500_505.out _; (with_reducible repeat (first | refine blk_drewN ?_ _ | refine blk_drew ?_ | refine blk_alloc ?_ _)); refine blk_far ?_ NB500_505.out _; (with_reducible repeat (first | refine blk_drewN ?_ _ | refine blk_drew ?_ | refine blk_alloc ?_ _)); refine blk_far ?_ NB500_505.out _; (with_reducible repeat (first | refine blk_drewN ?_ _ | refine blk_drew ?_ | refine blk_alloc ?_ _)); refine blk_far ?_ NB500_505.out _; (with_reducible repeat (first | refine blk_drewN ?_ _ | refine blk_drew ?_ | refine blk_alloc ?_ _)); exact BK500.out⟩, ⟨by repeat (first | (with_reducible first | exact HB.out | apply below_alloc | apply pw_below_drewN | apply below_drew1 | refine below_set ?_ GE500.out | refine below_set ?_ GE505.out) | exact HB.out)⟩⟩
        ·replace c13 := Bool.eq_false_iff.mpr c13
         subst c13
         have H1 : (quernlaw9_ranges.l1 k2 (l0_3.length : Int) false (wrap64 (x6_2 + 1)) a0_0 l0_1 a0_2 l0_3 l0_4) = some r := by rw [if_neg (show ¬ (false = true) by decide)] at H; exact H
         clear H
         have H := H1
         clear H1
         have H' := Aside0.mk H
         clear H
         have hcz44_0 : wr.cell? ⟨gb500, 0, none⟩ = some (.string a0_0) := (blk_cell BK500.out 0).trans rfl
         have hcz44_1 : wr.cell? ⟨gb500, 1, none⟩ = some (.slice A0_1 l0_1.length c0_1) := (blk_cell BK500.out 1).trans rfl
         have hcz44_2 : wr.cell? ⟨gb500, 2, none⟩ = some (.int .i64 a0_2) := (blk_cell BK500.out 2).trans rfl
         have hcz44_3 : wr.cell? ⟨gb500, 3, none⟩ = some (.slice A0_3 l0_3.length c0_3) := (blk_cell BK500.out 3).trans rfl
         have hcz44_4 : wr.cell? ⟨gb500, 4, none⟩ = some (.slice A0_4 l0_4.length c0_4) := (blk_cell BK500.out 4).trans rfl
         have hfz44_0 := blk_frozen BK500.out 0
         have hfz44_1 := blk_frozen BK500.out 1
         have hfz44_2 := blk_frozen BK500.out 2
         have hfz44_3 := blk_frozen BK500.out 3
         have hfz44_4 := blk_frozen BK500.out 4
         have p504 : 0 ≤ (x6_2 : Int) := of_decide_eq_true (by first | (with_reducible assumption) | assumption)
         have q504 : x6_2 < (l0_4.length : Int) := of_decide_eq_true (by first | (with_reducible assumption) | assumption)
         obtain ⟨ad504, A504_0, c504_0, A504_1, c504_1, A504_4, c504_4, A504_5, c504_5, e504, hx504_0, hx504_1, hx504_2, hx504_3, hx504_4, hx504_5, hl504_0, hi504_0, hl504_1, hi504_1, hl504_4, hi504_4, hl504_5, hi504_5⟩ := at_T46 HR0_4.out x6_2 p504 q504
         cases e504
         replace hx504_0 := cellA HB hx504_0
         replace hx504_1 := cellA HB hx504_1
         replace hx504_2 := cellA HB hx504_2
         replace hx504_3 := cellA HB hx504_3
         replace hx504_4 := cellA HB hx504_4
         replace hx504_5 := cellA HB hx504_5
         have HR504_0 := Aside0.mk hi504_0
         have HC504_0 := Aside0.mk hl504_0
         clear hi504_0 hl504_0
         have HR504_1 := Aside0.mk hi504_1
         have HC504_1 := Aside0.mk hl504_1
         clear hi504_1 hl504_1
         have HR504_4 := Aside0.mk hi504_4
         have HC504_4 := Aside0.mk hl504_4
         clear hi504_4 hl504_4
         have HR504_5 := Aside0.mk hi504_5
         have HC504_5 := Aside0.mk hl504_5
         clear hi504_5 hl504_5
         replace p504 := eq_true p504
         replace q504 := eq_true q504
         go_wp2_with (first | ((with_reducible refine gate_dst (N := 7) rfl ?_); (try (refine gate_guard (by rfl) ?_; dsimp only)); refine box_event ?hg (N := 7) ?hd (cs := #[.slice none 0 0, .slice none 0 0, .int .i64 0, .int .i64 0, .slice none 0 0, .slice none 0 0]) (t := 46) ?hr ?_; (case hd => rfl); (case hg => rfl); (case hr => first | (go_simp; done) | (go_simp; rfl)); intro gb505 hg w45 hbox hb; have n0_ := Aside0.mk (blk_below (g := gb500) (o := .cells #[.string a0_0, .slice A0_1 l0_1.length c0_1, .int .i64 a0_2, .slice A0_3 l0_3.length c0_3, .slice (some ad504) l0_4.length c0_4] 38 (0, 0)) (by (with_reducible repeat (first | refine blk_drewN ?_ _ | refine blk_drew ?_ | refine blk_alloc ?_ _)); exact BK500.out) hb); have n1_ := Aside0.mk (below_step (by repeat (first | (with_reducible first | exact HB.out | apply below_alloc | apply pw_below_drewN | apply below_drew1 | refine below_set ?_ GE500.out) | exact HB.out)) hb); have n2_ := Aside0.mk (hbox); have n3_ := Aside0.mk ((by rw [hg]; exact (below_size (by repeat (first | (with_reducible first | exact HB.out | apply below_alloc | apply pw_below_drewN | apply below_drew1 | refine below_set ?_ GE500.out) | exact HB.out))) : w.heap.size ≤ gb505)); have n4_ := Aside0.mk ((by rw [hg]; exact (below_size (by repeat (first | (with_reducible first | exact HB.out | apply below_alloc | apply pw_below_drewN | apply below_drew1 | refine below_set ?_ GE500.out) | exact HB.out))) : w.heap.size ≤ gb505)); have n5_ := Aside0.mk ((by rw [hg]; exact Nat.ne_of_lt (blk_lt (g := gb500) (o := .cells #[.string a0_0, .slice A0_1 l0_1.length c0_1, .int .i64 a0_2, .slice A0_3 l0_3.length c0_3, .slice (some ad504) l0_4.length c0_4] 38 (0, 0)) (by (with_reducible repeat (first | refine blk_drewN ?_ _ | refine blk_drew ?_ | refine blk_alloc ?_ _)); exact BK500.out)) : gb500 ≠ gb505)); have n6_ := Aside0.mk ((by rw [hg]; exact Nat.ne_of_gt (blk_lt (g := gb500) (o := .cells #[.string a0_0, .slice A0_1 l0_1.length c0_1, .int .i64 a0_2, .slice A0_3 l0_3.length c0_3, .slice (some ad504) l0_4.length c0_4] 38 (0, 0)) (by (with_reducible repeat (first | refine blk_drewN ?_ _ | refine blk_drew ?_ | refine blk_alloc ?_ _)); exact BK500.out)) : gb505 ≠ gb500)); clear BK500; clear HB; have BK500 := n0_; have HB := n1_; have BK505 := n2_; have GW505 := n3_; have GE505 := n4_; have NB500_505 := n5_; have NB505_500 := n6_; clear n0_ n1_ n2_ n3_ n4_ n5_ n6_; clear hb hbox hg; have hnb46 := NB505_500.out; have hnc46 := NB500_505.out; have hcz47_0 : w45.cell? ⟨gb505, 0, none⟩ = some (.slice none 0 0) := (blk_cell BK505.out 0).trans rfl; have hcz47_1 : w45.cell? ⟨gb505, 1, none⟩ = some (.slice none 0 0) := (blk_cell BK505.out 1).trans rfl; have hcz47_2 : w45.cell? ⟨gb505, 2, none⟩ = some (.int .i64 0) := (blk_cell BK505.out 2).trans rfl; have hcz47_3 : w45.cell? ⟨gb505, 3, none⟩ = some (.int .i64 0) := (blk_cell BK505.out 3).trans rfl; have hcz47_4 : w45.cell? ⟨gb505, 4, none⟩ = some (.slice none 0 0) := (blk_cell BK505.out 4).trans rfl; have hcz47_5 : w45.cell? ⟨gb505, 5, none⟩ = some (.slice none 0 0) := (blk_cell BK505.out 5).trans rfl; have hfz47_0 := blk_frozen BK505.out 0; have hfz47_1 := blk_frozen BK505.out 1; have hfz47_2 := blk_frozen BK505.out 2; have hfz47_3 := blk_frozen BK505.out 3; have hfz47_4 := blk_frozen BK505.out 4; have hfz47_5 := blk_frozen BK505.out 5))
         go_roundg k2
         case measure => have := HK1.out; have := HK2.out; omega
         case rel => exact ⟨(false), (wrap64 (x6_2 + 1)), (by first | rfl | (simp; done) | (simp [*]; done)), (by first | rfl | (simp; done) | (simp [*]; done)), H', ⟨by have := HK1.out; have := HK2.out; omega⟩, ⟨by (with_reducible repeat (first | refine blk_drewN ?_ _ | refine blk_drew ?_ | refine blk_alloc ?_ _)); refine blk_far ?_ NB500_505.out _; (with_reducible repeat (first | refine blk_drewN ?_ _ | refine blk_drew ?_ | refine blk_alloc ?_ _)); refine blk_far ?_ NB500_505.out _; (with_reducible repeat (first | refine blk_drewN ?_ _ | refine blk_drew ?_ | refine blk_alloc ?_ _)); refine blk_far ?_ NB500_505.out _; (with_reducible repeat (first | refine blk_drewN ?_ _ | refine blk_drew ?_ | refine blk_alloc ?_ _)); refine blk_far ?_ NB500_505.out _; (with_reducible repeat (first | refine blk_drewN ?_ _ | refine blk_drew ?_ | refine blk_alloc ?_ _)); refine blk_far ?_ NB500_505.out _; (with_reducible repeat (first | refine blk_drewN ?_ _ | refine blk_drew ?_ | refine blk_alloc ?_ _)); refine blk_far ?_ NB500_505.out _; (with_reducible repeat (first | refine blk_drewN ?_ _ | refine blk_drew ?_ | refine blk_alloc ?_ _)); exact BK500.out⟩, ⟨by repeat (first | (with_reducible first | exact HB.out | apply below_alloc | apply pw_below_drewN | apply below_drew1 | refine below_set ?_ GE500.out | refine below_set ?_ GE505.out) | exact HB.out)⟩⟩
       ·rw [if_neg c12] at H
        exact absurd H (by simp)
      ·rw [if_neg c11] at H
       have c11b0 : decide (x6_2 < (l0_4.length : Int)) = false := decide_eq_false c11
       clear c11
       by_cases c48 : x4_2 = true
       ·subst c48
        have H1 : (some (decide ((l0_4.length : Int) > 0))) = some r := by rw [if_pos rfl] at H; exact H
        clear H
        have H := H1
        clear H1
        obtain rfl := Option.some.inj H
        have hcz49_0 : wr.cell? ⟨gb500, 0, none⟩ = some (.string a0_0) := (blk_cell BK500.out 0).trans rfl
        have hcz49_1 : wr.cell? ⟨gb500, 1, none⟩ = some (.slice A0_1 l0_1.length c0_1) := (blk_cell BK500.out 1).trans rfl
        have hcz49_2 : wr.cell? ⟨gb500, 2, none⟩ = some (.int .i64 a0_2) := (blk_cell BK500.out 2).trans rfl
        have hcz49_3 : wr.cell? ⟨gb500, 3, none⟩ = some (.slice A0_3 l0_3.length c0_3) := (blk_cell BK500.out 3).trans rfl
        have hcz49_4 : wr.cell? ⟨gb500, 4, none⟩ = some (.slice A0_4 l0_4.length c0_4) := (blk_cell BK500.out 4).trans rfl
        have hfz49_0 := blk_frozen BK500.out 0
        have hfz49_1 := blk_frozen BK500.out 1
        have hfz49_2 := blk_frozen BK500.out 2
        have hfz49_3 := blk_frozen BK500.out 3
        have hfz49_4 := blk_frozen BK500.out 4
        go_wp2
        go_ret
        exact ⟨by first | rfl | (simp [errW_none, errW_some] <;> rfl) | (simp [*, errW_none, errW_some] <;> rfl), by repeat (first | (with_reducible first | exact HB.out | apply below_alloc | apply pw_below_drewN | apply below_drew1 | refine below_set ?_ GE500.out) | exact HB.out)⟩
       ·replace c48 := Bool.eq_false_iff.mpr c48
        subst c48
        have H1 : (some false) = some r := by rw [if_neg (show ¬ (false = true) by decide)] at H; exact H
        clear H
        have H := H1
        clear H1
        obtain rfl := Option.some.inj H
        have hcz50_0 : wr.cell? ⟨gb500, 0, none⟩ = some (.string a0_0) := (blk_cell BK500.out 0).trans rfl
        have hcz50_1 : wr.cell? ⟨gb500, 1, none⟩ = some (.slice A0_1 l0_1.length c0_1) := (blk_cell BK500.out 1).trans rfl
        have hcz50_2 : wr.cell? ⟨gb500, 2, none⟩ = some (.int .i64 a0_2) := (blk_cell BK500.out 2).trans rfl
        have hcz50_3 : wr.cell? ⟨gb500, 3, none⟩ = some (.slice A0_3 l0_3.length c0_3) := (blk_cell BK500.out 3).trans rfl
        have hcz50_4 : wr.cell? ⟨gb500, 4, none⟩ = some (.slice A0_4 l0_4.length c0_4) := (blk_cell BK500.out 4).trans rfl
        have hfz50_0 := blk_frozen BK500.out 0
        have hfz50_1 := blk_frozen BK500.out 1
        have hfz50_2 := blk_frozen BK500.out 2
        have hfz50_3 := blk_frozen BK500.out 3
        have hfz50_4 := blk_frozen BK500.out 4
        go_wp2
        go_ret
        exact ⟨by first | rfl | (simp [errW_none, errW_some] <;> rfl) | (simp [*, errW_none, errW_some] <;> rfl), by repeat (first | (with_reducible first | exact HB.out | apply below_alloc | apply pw_below_drewN | apply below_drew1 | refine below_set ?_ GE500.out) | exact HB.out)⟩
mutual
def quernlaw9_met.l0 : Nat → Int → Int → List Bool → List Int → Int → ByteArray → List Int → Int → List (S42) → List (S46) → Option (Bool)
 | 0, _, _, _, _, _, _, _, _, _, _ => none
 | k + 1, x1, x2, x7, x8, x9, x511000, x511001, x511002, x511003, x511004 => if x9 < (x8.length : Int) then (if 0 ≤ x9 then (if 0 ≤ (rd x8 x9) then (if (rd x8 x9) < (x511004.length : Int) then (quernlaw9_met.l1 k x1 x2 x7 x8 x9 ((rd_T46 x511004 (rd x8 x9)).f2.f2) 0 x511000 x511001 x511002 x511003 x511004) else (none)) else (none)) else (none)) else (if 0 ≤ x1 then (if x1 < (x7.length : Int) then (some (rdOf false x7 x1)) else (none)) else (none))
def quernlaw9_met.l1 : Nat → Int → Int → List Bool → List Int → Int → List Int → Int → ByteArray → List Int → Int → List (S42) → List (S46) → Option (Bool)
 | 0, _, _, _, _, _, _, _, _, _, _, _, _ => none
 | k + 1, x1, x2, x7, x8, x9, x10, x11, x511000, x511001, x511002, x511003, x511004 => if x11 < (x10.length : Int) then (if 0 ≤ x11 then (if (rd x10 x11) = x2 then (quernlaw9_met.l1 k x1 x2 x7 x8 x9 x10 (wrap64 (x11 + 1)) x511000 x511001 x511002 x511003 x511004) else (if 0 ≤ (rd x10 x11) then (if (rd x10 x11) < (x7.length : Int) then (if (rdOf false x7 (rd x10 x11) = true) then (quernlaw9_met.l1 k x1 x2 x7 x8 x9 x10 (wrap64 (x11 + 1)) x511000 x511001 x511002 x511003 x511004) else (if x8.length < 17592186044416 then (quernlaw9_met.l1 k x1 x2 (x7.set ((rd x10 x11) : Int).toNat true) (x8 ++ [rd x10 x11]) x9 x10 (wrap64 (x11 + 1)) x511000 x511001 x511002 x511003 x511004) else (none))) else (none)) else (none))) else (none)) else (quernlaw9_met.l0 k x1 x2 x7 x8 (wrap64 (x9 + 1)) x511000 x511001 x511002 x511003 x511004)
end
def quernlaw9_met.f (k : Nat) (a0_0 : ByteArray) (l0_1 : List Int) (a0_2 : Int) (l0_3 : List (S42)) (l0_4 : List (S46)) (a1 : Int) (a2 : Int) : Option (Bool) := if 0 ≤ (l0_4.length : Int) then (if ((l0_4.length : Int) : Int).toNat ≤ 281474976710656 then ((some (List.replicate ((l0_4.length : Int) : Int).toNat false : List Bool)).bind fun y511 => (if a2 = 0 then (some false) else (if 0 < (y511.length : Int) then (quernlaw9_met.l0 k a1 a2 (y511.set (0 : Int).toNat true) (([0] : List Int)) 0 a0_0 l0_1 a0_2 l0_3 l0_4) else (none)))) else (none)) else (none)
theorem quernlaw9_met.mono_l : ∀ k, (∀ y0 y1 y2 y3 y4 y5 y6 y7 y8 y9, LeO (quernlaw9_met.l0 k y0 y1 y2 y3 y4 y5 y6 y7 y8 y9) (quernlaw9_met.l0 (k + 1) y0 y1 y2 y3 y4 y5 y6 y7 y8 y9)) ∧ (∀ y0 y1 y2 y3 y4 y5 y6 y7 y8 y9 y10 y11, LeO (quernlaw9_met.l1 k y0 y1 y2 y3 y4 y5 y6 y7 y8 y9 y10 y11) (quernlaw9_met.l1 (k + 1) y0 y1 y2 y3 y4 y5 y6 y7 y8 y9 y10 y11))
 | 0 => ⟨fun _ _ _ _ _ _ _ _ _ _ r h => by simp [quernlaw9_met.l0] at h, fun _ _ _ _ _ _ _ _ _ _ _ _ r h => by simp [quernlaw9_met.l1] at h⟩
 | k + 1 => by
  obtain ⟨ih0, ih1⟩ := quernlaw9_met.mono_l k
  refine ⟨?_, ?_⟩
  ·intro y0 y1 y2 y3 y4 y5 y6 y7 y8 y9
   unfold quernlaw9_met.l0
   repeat' first
   | (with_reducible exact ih0 _ _ _ _ _ _ _ _ _ _)
   | (with_reducible exact ih1 _ _ _ _ _ _ _ _ _ _ _ _)
   | (with_reducible exact LeO.refl _)
   | (with_reducible exact LeO.none _)
   | (with_reducible refine LeO.ite ?_ ?_)
   | (with_reducible refine LeO.bind ?_ (fun _ => ?_))
   | exact ih0 _ _ _ _ _ _ _ _ _ _
   | exact ih1 _ _ _ _ _ _ _ _ _ _ _ _
   | exact LeO.none _
   | refine LeO.ite ?_ ?_
   | refine LeO.bind ?_ (fun _ => ?_)
  ·intro y0 y1 y2 y3 y4 y5 y6 y7 y8 y9 y10 y11
   unfold quernlaw9_met.l1
   repeat' first
   | (with_reducible exact ih0 _ _ _ _ _ _ _ _ _ _)
   | (with_reducible exact ih1 _ _ _ _ _ _ _ _ _ _ _ _)
   | (with_reducible exact LeO.refl _)
   | (with_reducible exact LeO.none _)
   | (with_reducible refine LeO.ite ?_ ?_)
   | (with_reducible refine LeO.bind ?_ (fun _ => ?_))
   | exact ih0 _ _ _ _ _ _ _ _ _ _
   | exact ih1 _ _ _ _ _ _ _ _ _ _ _ _
   | exact LeO.none _
   | refine LeO.ite ?_ ?_
   | refine LeO.bind ?_ (fun _ => ?_)
theorem quernlaw9_met.mono : ∀ a0 a1 a2 a3 a4 a5 a6 k, LeO (quernlaw9_met.f k a0 a1 a2 a3 a4 a5 a6) (quernlaw9_met.f (k + 1) a0 a1 a2 a3 a4 a5 a6) := by
 intro a0 a1 a2 a3 a4 a5 a6 k
 obtain ⟨ih0, ih1⟩ := quernlaw9_met.mono_l k
 unfold quernlaw9_met.f
 repeat' first
   | (with_reducible exact ih0 _ _ _ _ _ _ _ _ _ _)
   | (with_reducible exact ih1 _ _ _ _ _ _ _ _ _ _ _ _)
   | (with_reducible exact LeO.refl _)
   | (with_reducible exact LeO.none _)
   | (with_reducible refine LeO.ite ?_ ?_)
   | (with_reducible refine LeO.bind ?_ (fun _ => ?_))
   | exact ih0 _ _ _ _ _ _ _ _ _ _
   | exact ih1 _ _ _ _ _ _ _ _ _ _ _ _
   | exact LeO.none _
   | refine LeO.ite ?_ ?_
   | refine LeO.bind ?_ (fun _ => ?_)
set_option maxHeartbeats 8000000 in
set_option maxRecDepth 100000 in
theorem quernlaw9_met.calls (k : Nat) (a0_0 : ByteArray) (A0_1 : Option Addr) (c0_1 : Nat) (l0_1 : List Int) (a0_2 : Int) (A0_3 : Option Addr) (c0_3 : Nat) (l0_3 : List (S42)) (A0_4 : Option Addr) (c0_4 : Nat) (l0_4 : List (S46)) (a1 : Int) (a2 : Int) (r : Bool) (w : World) (hr0_1 : Kd.C (Kd.int .i64) w A0_1 l0_1.length l0_1) (hc0_1 : l0_1.length ≤ c0_1) (hr0_3 : Kd.C k42 w A0_3 l0_3.length l0_3) (hc0_3 : l0_3.length ≤ c0_3) (hr0_4 : Kd.C k46 w A0_4 l0_4.length l0_4) (hc0_4 : l0_4.length ≤ c0_4) (h : quernlaw9_met.f k a0_0 l0_1 a0_2 l0_3 l0_4 a1 a2 = some r) :
  Calls Try.prog 33 #[.agg #[.string a0_0, .slice A0_1 l0_1.length c0_1, .int .i64 a0_2, .slice A0_3 l0_3.length c0_3, .slice A0_4 l0_4.length c0_4], .int .i64 a1, .int .i64 a2] w fun e w' => e = .returned (.bool r) ∧ Below w.heap.size w w' := by
 have hu38 := Try.underlying38
 have HR0_1 := Aside0.mk hr0_1
 have HC0_1 := Aside0.mk hc0_1
 clear hr0_1 hc0_1
 have HR0_3 := Aside0.mk hr0_3
 have HC0_3 := Aside0.mk hc0_3
 clear hr0_3 hc0_3
 have HR0_4 := Aside0.mk hr0_4
 have HC0_4 := Aside0.mk hc0_4
 clear hr0_4 hc0_4
 have HB := Aside0.mk (Below.refl w.heap.size w)
 have H : (if 0 ≤ (l0_4.length : Int) then (if ((l0_4.length : Int) : Int).toNat ≤ 281474976710656 then ((some (List.replicate ((l0_4.length : Int) : Int).toNat false : List Bool)).bind fun y511 => (if a2 = 0 then (some false) else (if 0 < (y511.length : Int) then (quernlaw9_met.l0 k a1 a2 (y511.set (0 : Int).toNat true) (([0] : List Int)) 0 a0_0 l0_1 a0_2 l0_3 l0_4) else (none)))) else (none)) else (none)) = some r := h
 clear h
 by_cases c4 : 0 ≤ (l0_4.length : Int)
 ·rw [if_pos c4] at H
  have c4b0 := eq_true c4
  have c4b1 : decide (0 ≤ (l0_4.length : Int)) = true := decide_eq_true c4
  clear c4
  by_cases c5 : ((l0_4.length : Int) : Int).toNat ≤ 281474976710656
  ·rw [if_pos c5] at H
   have c5b0 := eq_true c5
   have c5b1 : decide (((l0_4.length : Int) : Int).toNat ≤ 281474976710656) = true := decide_eq_true c5
   clear c5
   obtain ⟨y511, hy511⟩ : ∃ y_ : List Bool, y_ = (List.replicate ((l0_4.length : Int) : Int).toNat false) := ⟨_, rfl⟩
   replace H : (if a2 = 0 then (some false) else (if 0 < (y511.length : Int) then (quernlaw9_met.l0 k a1 a2 (y511.set (0 : Int).toNat true) (([0] : List Int)) 0 a0_0 l0_1 a0_2 l0_3 l0_4) else (none))) = some r := by first | (rw [hy511]; with_reducible exact H) | (have H2_ := (Option.bind_some _ _).symm.trans H; rw [hy511]; with_reducible exact H2_) | (have H2_ := (Option.bind_some _ _).symm.trans H; with_reducible exact H2_) | with_reducible exact H | (rw [hy511]; exact H) | exact H
   have Ny511 := Aside0.mk hy511
   clear hy511
   by_cases c6 : a2 = 0
   ·rw [if_pos c6] at H
    have c6b0 : (a2 == 0) = true := beq_iff_eq.mpr c6
    have c6b1 : (a2 != 0) = false := bne_eq_false_iff_eq.mpr c6
    clear c6
    obtain rfl := Option.some.inj H
    go_enter Try.func33, Try.ntmps33
    go_wp2_with (first | ((with_reducible refine gate_dst (N := 3) rfl ?_); refine box_event ?hg (N := 3) ?hd (cs := #[.string a0_0, .slice A0_1 l0_1.length c0_1, .int .i64 a0_2, .slice A0_3 l0_3.length c0_3, .slice A0_4 l0_4.length c0_4]) (t := 38) ?hr ?_; (case hd => rfl); (case hg => rfl); (case hr => first | (go_simp; done) | (go_simp; rfl)); intro gb510 hg w7 hbox hb; have n0_ := Aside0.mk (below_step (by repeat (first | (with_reducible first | exact HB.out | apply below_alloc | apply pw_below_drewN | apply below_drew1) | exact HB.out)) hb); have n1_ := Aside0.mk (hbox); have n2_ := Aside0.mk ((by rw [hg]; exact (below_size (by repeat (first | (with_reducible first | exact HB.out | apply below_alloc | apply pw_below_drewN | apply below_drew1) | exact HB.out))) : w.heap.size ≤ gb510)); have n3_ := Aside0.mk ((by rw [hg]; exact (below_size (by repeat (first | (with_reducible first | exact HB.out | apply below_alloc | apply pw_below_drewN | apply below_drew1) | exact HB.out))) : w.heap.size ≤ gb510)); clear HB; have HB := n0_; have BK510 := n1_; have GW510 := n2_; have GE510 := n3_; clear n0_ n1_ n2_ n3_; clear hb hbox hg; have hcz8_0 : w7.cell? ⟨gb510, 0, none⟩ = some (.string a0_0) := (blk_cell BK510.out 0).trans rfl; have hcz8_1 : w7.cell? ⟨gb510, 1, none⟩ = some (.slice A0_1 l0_1.length c0_1) := (blk_cell BK510.out 1).trans rfl; have hcz8_2 : w7.cell? ⟨gb510, 2, none⟩ = some (.int .i64 a0_2) := (blk_cell BK510.out 2).trans rfl; have hcz8_3 : w7.cell? ⟨gb510, 3, none⟩ = some (.slice A0_3 l0_3.length c0_3) := (blk_cell BK510.out 3).trans rfl; have hcz8_4 : w7.cell? ⟨gb510, 4, none⟩ = some (.slice A0_4 l0_4.length c0_4) := (blk_cell BK510.out 4).trans rfl; have hfz8_0 := blk_frozen BK510.out 0; have hfz8_1 := blk_frozen BK510.out 1; have hfz8_2 := blk_frozen BK510.out 2; have hfz8_3 := blk_frozen BK510.out 3; have hfz8_4 := blk_frozen BK510.out 4) | ((with_reducible refine gate_dst (N := 15) rfl ?_); refine Kd.R_make Kd.bool _ 4 rfl (N := 15) rfl 76 _ _ rfl (l0_4.length : Int) rfl rfl Try.underlying76 (.bool false) 1 info4 rfl (by decide) (by omega) false (ok := fun _ => True) (okp := fun _ => True) rfl (fun _ hk => hk) trivial (of_decide_eq_true (by first | (with_reducible assumption) | assumption)) (Nat.le_trans (Nat.mul_le_mul_right _ (of_decide_eq_true (by first | (with_reducible assumption) | assumption) : (l0_4.length : Int).toNat ≤ 281474976710656)) (by omega)) (Below.refl _ _) (Nat.le_refl _) ?_; intro v512 w9 ho10 hb hg_ hnew_; clear hg_ hnew_; (first | rw [← Ny511.out] at ho10 | (simp only [Int.reduceToNat] at ho10; rw [← Ny511.out] at ho10)); have n0_ := Aside0.mk (Kd.R_lower ho10 (below_size (by repeat (first | (with_reducible first | exact HB.out | apply below_alloc | apply pw_below_drewN | apply below_drew1 | refine below_set ?_ GE510.out) | exact HB.out)))); have n1_ := Aside0.mk (blk_below (g := gb510) (o := .cells #[.string a0_0, .slice A0_1 l0_1.length c0_1, .int .i64 a0_2, .slice A0_3 l0_3.length c0_3, .slice A0_4 l0_4.length c0_4] 38 (0, 0)) (by (with_reducible repeat (first | refine blk_drewN ?_ _ | refine blk_drew ?_ | refine blk_alloc ?_ _)); exact BK510.out) hb); have n2_ := Aside0.mk (below_step (by repeat (first | (with_reducible first | exact HB.out | apply below_alloc | apply pw_below_drewN | apply below_drew1 | refine below_set ?_ GE510.out) | exact HB.out)) hb); clear BK510; clear HB; have HO513 := n0_; have BK510 := n1_; have HB := n2_; clear n0_ n1_ n2_; clear hb ho10))
    repeat (go_quiet (first | ((with_reducible refine gate_dst (N := 3) rfl ?_); refine box_event ?hg (N := 3) ?hd (cs := #[.string a0_0, .slice A0_1 l0_1.length c0_1, .int .i64 a0_2, .slice A0_3 l0_3.length c0_3, .slice A0_4 l0_4.length c0_4]) (t := 38) ?hr ?_; (case hd => rfl); (case hg => rfl); (case hr => first | (go_simp; done) | (go_simp; rfl)); intro gb510 hg w7 hbox hb; have n0_ := Aside0.mk (below_step (by repeat (first | (with_reducible first | exact HB.out | apply below_alloc | apply pw_below_drewN | apply below_drew1) | exact HB.out)) hb); have n1_ := Aside0.mk (hbox); have n2_ := Aside0.mk ((by rw [hg]; exact (below_size (by repeat (first | (with_reducible first | exact HB.out | apply below_alloc | apply pw_below_drewN | apply below_drew1) | exact HB.out))) : w.heap.size ≤ gb510)); have n3_ := Aside0.mk ((by rw [hg]; exact (below_size (by repeat (first | (with_reducible first | exact HB.out | apply below_alloc | apply pw_below_drewN | apply below_drew1) | exact HB.out))) : w.heap.size ≤ gb510)); clear HB; have HB := n0_; have BK510 := n1_; have GW510 := n2_; have GE510 := n3_; clear n0_ n1_ n2_ n3_; clear hb hbox hg; have hcz8_0 : w7.cell? ⟨gb510, 0, none⟩ = some (.string a0_0) := (blk_cell BK510.out 0).trans rfl; have hcz8_1 : w7.cell? ⟨gb510, 1, none⟩ = some (.slice A0_1 l0_1.length c0_1) := (blk_cell BK510.out 1).trans rfl; have hcz8_2 : w7.cell? ⟨gb510, 2, none⟩ = some (.int .i64 a0_2) := (blk_cell BK510.out 2).trans rfl; have hcz8_3 : w7.cell? ⟨gb510, 3, none⟩ = some (.slice A0_3 l0_3.length c0_3) := (blk_cell BK510.out 3).trans rfl; have hcz8_4 : w7.cell? ⟨gb510, 4, none⟩ = some (.slice A0_4 l0_4.length c0_4) := (blk_cell BK510.out 4).trans rfl; have hfz8_0 := blk_frozen BK510.out 0; have hfz8_1 := blk_frozen BK510.out 1; have hfz8_2 := blk_frozen BK510.out 2; have hfz8_3 := blk_frozen BK510.out 3; have hfz8_4 := blk_frozen BK510.out 4) | ((with_reducible refine gate_dst (N := 15) rfl ?_); refine Kd.R_make Kd.bool _ 4 rfl (N := 15) rfl 76 _ _ rfl (l0_4.length : Int) rfl rfl Try.underlying76 (.bool false) 1 info4 rfl (by decide) (by omega) false (ok := fun _ => True) (okp := fun _ => True) rfl (fun _ hk => hk) trivial (of_decide_eq_true (by first | (with_reducible assumption) | assumption)) (Nat.le_trans (Nat.mul_le_mul_right _ (of_decide_eq_true (by first | (with_reducible assumption) | assumption) : (l0_4.length : Int).toNat ≤ 281474976710656)) (by omega)) (Below.refl _ _) (Nat.le_refl _) ?_; intro v512 w9 ho10 hb hg_ hnew_; clear hg_ hnew_; (first | rw [← Ny511.out] at ho10 | (simp only [Int.reduceToNat] at ho10; rw [← Ny511.out] at ho10)); have n0_ := Aside0.mk (Kd.R_lower ho10 (below_size (by repeat (first | (with_reducible first | exact HB.out | apply below_alloc | apply pw_below_drewN | apply below_drew1 | refine below_set ?_ GE510.out) | exact HB.out)))); have n1_ := Aside0.mk (blk_below (g := gb510) (o := .cells #[.string a0_0, .slice A0_1 l0_1.length c0_1, .int .i64 a0_2, .slice A0_3 l0_3.length c0_3, .slice A0_4 l0_4.length c0_4] 38 (0, 0)) (by (with_reducible repeat (first | refine blk_drewN ?_ _ | refine blk_drew ?_ | refine blk_alloc ?_ _)); exact BK510.out) hb); have n2_ := Aside0.mk (below_step (by repeat (first | (with_reducible first | exact HB.out | apply below_alloc | apply pw_below_drewN | apply below_drew1 | refine below_set ?_ GE510.out) | exact HB.out)) hb); clear BK510; clear HB; have HO513 := n0_; have BK510 := n1_; have HB := n2_; clear n0_ n1_ n2_; clear hb ho10)); try go_wp2_with (first | ((with_reducible refine gate_dst (N := 3) rfl ?_); refine box_event ?hg (N := 3) ?hd (cs := #[.string a0_0, .slice A0_1 l0_1.length c0_1, .int .i64 a0_2, .slice A0_3 l0_3.length c0_3, .slice A0_4 l0_4.length c0_4]) (t := 38) ?hr ?_; (case hd => rfl); (case hg => rfl); (case hr => first | (go_simp; done) | (go_simp; rfl)); intro gb510 hg w7 hbox hb; have n0_ := Aside0.mk (below_step (by repeat (first | (with_reducible first | exact HB.out | apply below_alloc | apply pw_below_drewN | apply below_drew1) | exact HB.out)) hb); have n1_ := Aside0.mk (hbox); have n2_ := Aside0.mk ((by rw [hg]; exact (below_size (by repeat (first | (with_reducible first | exact HB.out | apply below_alloc | apply pw_below_drewN | apply below_drew1) | exact HB.out))) : w.heap.size ≤ gb510)); have n3_ := Aside0.mk ((by rw [hg]; exact (below_size (by repeat (first | (with_reducible first | exact HB.out | apply below_alloc | apply pw_below_drewN | apply below_drew1) | exact HB.out))) : w.heap.size ≤ gb510)); clear HB; have HB := n0_; have BK510 := n1_; have GW510 := n2_; have GE510 := n3_; clear n0_ n1_ n2_ n3_; clear hb hbox hg; have hcz8_0 : w7.cell? ⟨gb510, 0, none⟩ = some (.string a0_0) := (blk_cell BK510.out 0).trans rfl; have hcz8_1 : w7.cell? ⟨gb510, 1, none⟩ = some (.slice A0_1 l0_1.length c0_1) := (blk_cell BK510.out 1).trans rfl; have hcz8_2 : w7.cell? ⟨gb510, 2, none⟩ = some (.int .i64 a0_2) := (blk_cell BK510.out 2).trans rfl; have hcz8_3 : w7.cell? ⟨gb510, 3, none⟩ = some (.slice A0_3 l0_3.length c0_3) := (blk_cell BK510.out 3).trans rfl; have hcz8_4 : w7.cell? ⟨gb510, 4, none⟩ = some (.slice A0_4 l0_4.length c0_4) := (blk_cell BK510.out 4).trans rfl; have hfz8_0 := blk_frozen BK510.out 0; have hfz8_1 := blk_frozen BK510.out 1; have hfz8_2 := blk_frozen BK510.out 2; have hfz8_3 := blk_frozen BK510.out 3; have hfz8_4 := blk_frozen BK510.out 4) | ((with_reducible refine gate_dst (N := 15) rfl ?_); refine Kd.R_make Kd.bool _ 4 rfl (N := 15) rfl 76 _ _ rfl (l0_4.length : Int) rfl rfl Try.underlying76 (.bool false) 1 info4 rfl (by decide) (by omega) false (ok := fun _ => True) (okp := fun _ => True) rfl (fun _ hk => hk) trivial (of_decide_eq_true (by first | (with_reducible assumption) | assumption)) (Nat.le_trans (Nat.mul_le_mul_right _ (of_decide_eq_true (by first | (with_reducible assumption) | assumption) : (l0_4.length : Int).toNat ≤ 281474976710656)) (by omega)) (Below.refl _ _) (Nat.le_refl _) ?_; intro v512 w9 ho10 hb hg_ hnew_; clear hg_ hnew_; (first | rw [← Ny511.out] at ho10 | (simp only [Int.reduceToNat] at ho10; rw [← Ny511.out] at ho10)); have n0_ := Aside0.mk (Kd.R_lower ho10 (below_size (by repeat (first | (with_reducible first | exact HB.out | apply below_alloc | apply pw_below_drewN | apply below_drew1 | refine below_set ?_ GE510.out) | exact HB.out)))); have n1_ := Aside0.mk (blk_below (g := gb510) (o := .cells #[.string a0_0, .slice A0_1 l0_1.length c0_1, .int .i64 a0_2, .slice A0_3 l0_3.length c0_3, .slice A0_4 l0_4.length c0_4] 38 (0, 0)) (by (with_reducible repeat (first | refine blk_drewN ?_ _ | refine blk_drew ?_ | refine blk_alloc ?_ _)); exact BK510.out) hb); have n2_ := Aside0.mk (below_step (by repeat (first | (with_reducible first | exact HB.out | apply below_alloc | apply pw_below_drewN | apply below_drew1 | refine below_set ?_ GE510.out) | exact HB.out)) hb); clear BK510; clear HB; have HO513 := n0_; have BK510 := n1_; have HB := n2_; clear n0_ n1_ n2_; clear hb ho10)))
    go_ret
    exact ⟨by first | rfl | (simp [errW_none, errW_some] <;> rfl) | (simp [*, errW_none, errW_some] <;> rfl), by repeat (first | (with_reducible first | exact HB.out | apply below_alloc | apply pw_below_drewN | apply below_drew1 | refine below_set ?_ GE510.out) | exact HB.out)⟩
   ·rw [if_neg c6] at H
    have c6b0 : (a2 == 0) = false := beq_eq_false_iff_ne.mpr c6
    have c6b1 : (a2 != 0) = true := bne_iff_ne.mpr c6
    by_cases c11 : 0 < (y511.length : Int)
    ·rw [if_pos c11] at H
     have c11b0 : decide (0 < (y511.length : Int)) = true := decide_eq_true c11
     have c11b1 : decide (0 < y511.length) = true := decide_eq_true (by omega)
     clear c11
     obtain ⟨y514, hy514⟩ : ∃ y_ : List Bool, y_ = (y511.set (0 : Int).toNat true) := ⟨_, rfl⟩
     replace H : (quernlaw9_met.l0 k a1 a2 y514 (([0] : List Int)) 0 a0_0 l0_1 a0_2 l0_3 l0_4) = some r := by first | (rw [hy514]; with_reducible exact H) | (have H2_ := (Option.bind_some _ _).symm.trans H; rw [hy514]; with_reducible exact H2_) | (have H2_ := (Option.bind_some _ _).symm.trans H; with_reducible exact H2_) | with_reducible exact H | (rw [hy514]; exact H) | exact H
     have Ny514 := Aside0.mk hy514
     clear hy514
     obtain ⟨y515, hy515⟩ : ∃ y_ : List Int, y_ = (([0] : List Int)) := ⟨_, rfl⟩
     replace H : (quernlaw9_met.l0 k a1 a2 y514 y515 0 a0_0 l0_1 a0_2 l0_3 l0_4) = some r := by first | (rw [hy515]; with_reducible exact H) | (have H2_ := (Option.bind_some _ _).symm.trans H; rw [hy515]; with_reducible exact H2_) | (have H2_ := (Option.bind_some _ _).symm.trans H; with_reducible exact H2_) | with_reducible exact H | (rw [hy515]; exact H) | exact H
     have Ny515 := Aside0.mk hy515
     clear hy515
     have H' := Aside0.mk H
     clear H
     go_enter Try.func33, Try.ntmps33
     go_wp2_with (first | ((with_reducible refine gate_dst (N := 3) rfl ?_); refine box_event ?hg (N := 3) ?hd (cs := #[.string a0_0, .slice A0_1 l0_1.length c0_1, .int .i64 a0_2, .slice A0_3 l0_3.length c0_3, .slice A0_4 l0_4.length c0_4]) (t := 38) ?hr ?_; (case hd => rfl); (case hg => rfl); (case hr => first | (go_simp; done) | (go_simp; rfl)); intro gb510 hg w13 hbox hb; have n0_ := Aside0.mk (below_step (by repeat (first | (with_reducible first | exact HB.out | apply below_alloc | apply pw_below_drewN | apply below_drew1) | exact HB.out)) hb); have n1_ := Aside0.mk (hbox); have n2_ := Aside0.mk ((by rw [hg]; exact (below_size (by repeat (first | (with_reducible first | exact HB.out | apply below_alloc | apply pw_below_drewN | apply below_drew1) | exact HB.out))) : w.heap.size ≤ gb510)); have n3_ := Aside0.mk ((by rw [hg]; exact (below_size (by repeat (first | (with_reducible first | exact HB.out | apply below_alloc | apply pw_below_drewN | apply below_drew1) | exact HB.out))) : w.heap.size ≤ gb510)); clear HB; have HB := n0_; have BK510 := n1_; have GW510 := n2_; have GE510 := n3_; clear n0_ n1_ n2_ n3_; clear hb hbox hg; have hcz14_0 : w13.cell? ⟨gb510, 0, none⟩ = some (.string a0_0) := (blk_cell BK510.out 0).trans rfl; have hcz14_1 : w13.cell? ⟨gb510, 1, none⟩ = some (.slice A0_1 l0_1.length c0_1) := (blk_cell BK510.out 1).trans rfl; have hcz14_2 : w13.cell? ⟨gb510, 2, none⟩ = some (.int .i64 a0_2) := (blk_cell BK510.out 2).trans rfl; have hcz14_3 : w13.cell? ⟨gb510, 3, none⟩ = some (.slice A0_3 l0_3.length c0_3) := (blk_cell BK510.out 3).trans rfl; have hcz14_4 : w13.cell? ⟨gb510, 4, none⟩ = some (.slice A0_4 l0_4.length c0_4) := (blk_cell BK510.out 4).trans rfl; have hfz14_0 := blk_frozen BK510.out 0; have hfz14_1 := blk_frozen BK510.out 1; have hfz14_2 := blk_frozen BK510.out 2; have hfz14_3 := blk_frozen BK510.out 3; have hfz14_4 := blk_frozen BK510.out 4) | ((with_reducible refine gate_dst (N := 15) rfl ?_); refine Kd.R_make Kd.bool _ 4 rfl (N := 15) rfl 76 _ _ rfl (l0_4.length : Int) rfl rfl Try.underlying76 (.bool false) 1 info4 rfl (by decide) (by omega) false (ok := fun _ => True) (okp := fun _ => True) rfl (fun _ hk => hk) trivial (of_decide_eq_true (by first | (with_reducible assumption) | assumption)) (Nat.le_trans (Nat.mul_le_mul_right _ (of_decide_eq_true (by first | (with_reducible assumption) | assumption) : (l0_4.length : Int).toNat ≤ 281474976710656)) (by omega)) (Below.refl _ _) (Nat.le_refl _) ?_; intro v512 w15 ho16 hb hg_ hnew_; clear hg_ hnew_; (first | rw [← Ny511.out] at ho16 | (simp only [Int.reduceToNat] at ho16; rw [← Ny511.out] at ho16)); have n0_ := Aside0.mk (Kd.R_lower ho16 (below_size (by repeat (first | (with_reducible first | exact HB.out | apply below_alloc | apply pw_below_drewN | apply below_drew1 | refine below_set ?_ GE510.out) | exact HB.out)))); have n1_ := Aside0.mk (blk_below (g := gb510) (o := .cells #[.string a0_0, .slice A0_1 l0_1.length c0_1, .int .i64 a0_2, .slice A0_3 l0_3.length c0_3, .slice A0_4 l0_4.length c0_4] 38 (0, 0)) (by (with_reducible repeat (first | refine blk_drewN ?_ _ | refine blk_drew ?_ | refine blk_alloc ?_ _)); exact BK510.out) hb); have n2_ := Aside0.mk (below_step (by repeat (first | (with_reducible first | exact HB.out | apply below_alloc | apply pw_below_drewN | apply below_drew1 | refine below_set ?_ GE510.out) | exact HB.out)) hb); clear BK510; clear HB; have HO513 := n0_; have BK510 := n1_; have HB := n2_; clear n0_ n1_ n2_; clear hb ho16; have p12 : 0 ≤ (0 : Int) := (by omega); have q12 : (0 : Int) < ((y511.length : Int) : Int) := of_decide_eq_true (by first | (with_reducible assumption) | assumption); have qi12 : (0 < y511.length) = True := eq_true (by omega); obtain ⟨go12, co12, eo12, gb12, gl12, cl12, HG12⟩ := Kd.R_form HO513.out (by omega); (first | cases eo12 | (injection eo12 with ea_ en_ ec_; (first | subst ea_ | (injection ea_ with ea_; subst ea_)); subst ec_; clear en_)); have GB12 := Aside0.mk gb12; have GG12 := Aside0.mk HG12; clear gb12 gl12 HG12; obtain ⟨hx12_0, hf12_0⟩ := Kd.R_celln false HO513.out (0 : Int) p12 q12; (try rw [show ((0 : Int)).toNat = 0 from rfl] at hx12_0); (try simp only [Nat.reduceMul, Nat.zero_mul, Nat.zero_add, Nat.reduceAdd] at hx12_0); (try rw [show ((0 : Int)).toNat = 0 from rfl] at hf12_0); (try simp only [Nat.reduceMul, Nat.zero_mul, Nat.zero_add, Nat.reduceAdd] at hf12_0); replace p12 := eq_true p12; replace q12 := eq_true q12; obtain ⟨hy17_, hz17_⟩ := Kd.R_celln false HO513.out (0 : Int) (by omega) (of_decide_eq_true (by first | (with_reducible assumption) | assumption)); (try simp only [Int.reduceToNat, Int.toNat_zero, Int.toNat_ofNat, Nat.reduceMul, Nat.zero_mul, Nat.zero_add] at hy17_ hz17_); (try rw [show ((0 : Int)).toNat = 0 from rfl] at hy17_); (try rw [show ((0 : Int)).toNat = 0 from rfl] at hz17_); have HP17 := Kd.R_putg HO513.out (0 : Int) true) | ((with_reducible refine gate_store (t := 4) (p := 19) rfl ?_); (try (rw [drewN_self w15]; generalize hq_ : World.drewN w15 _ = w15; have n0_ := Aside0.mk (Kd.R_at hq_ HO513.out); have n1_ := Aside0.mk (blk_at hq_ BK510.out); have n2_ := Aside0.mk (below_at hq_ HB.out); clear hq_ HO513 BK510 HB; have HO513 := n0_; have BK510 := n1_; have HB := n2_; clear n0_ n1_ n2_; (try (obtain ⟨hy17_, hz17_⟩ := Kd.R_celln false HO513.out (0 : Int) (by omega) (of_decide_eq_true (by first | (with_reducible assumption) | assumption)))); (try (try simp only [Int.reduceToNat, Int.toNat_zero, Int.toNat_ofNat, Nat.reduceMul, Nat.zero_mul, Nat.zero_add] at hy17_ hz17_)); (try (try rw [show ((0 : Int)).toNat = 0 from rfl] at hy17_)); (try (try rw [show ((0 : Int)).toNat = 0 from rfl] at hz17_)); (try (have HP17 := Kd.R_putg HO513.out (0 : Int) true)))); refine store_event (t := 4) (p := 19) (v := ?vo_w18) (w1 := (w15.setCell ⟨go12, (0 : Int).toNat, none⟩ (.bool true))) ?hg ?ho ?hn ?hr ?_; (case ho => rfl); (case hg => rfl); (case hn => rfl); (case hr => first | (go_simp; done) | (go_simp; rfl)); intro w18 hw; have hg : w15.grownBy w18 (some go12) := (by rw [hw]; exact HP17.2); have hp_ : Kd.R Kd.bool 4 w18 w.heap.size (fun _ => True) (.slice (some ⟨go12, 0, none⟩) y511.length co12) y514 := (by rw [hw, Ny514.out]; exact HP17.1); clear HP17; have n0_ := Aside0.mk (blk_grown (g := gb510) (o := .cells #[.string a0_0, .slice A0_1 l0_1.length c0_1, .int .i64 a0_2, .slice A0_3 l0_3.length c0_3, .slice A0_4 l0_4.length c0_4] 38 (0, 0)) (by (with_reducible repeat (first | refine blk_drewN ?_ _ | refine blk_drew ?_ | refine blk_alloc ?_ _)); exact BK510.out) hg (Kd.R_ne HO513.out BK510.out (by decide))); have n1_ := Aside0.mk (hp_); have n2_ := Aside0.mk ((by rw [hw]; exact below_set (HB.out) GB12.out : Below w.heap.size w w18)); clear BK510; clear HO513; clear HB; have BK510 := n0_; have HO513 := n1_; have HB := n2_; clear n0_ n1_ n2_; clear hg hw hp_) | ((with_reducible refine gate_dst (N := 20) rfl ?_); refine Kd.R_lit (Kd.int .i64) _ 3 ?hg (N := 20) ?hd (xs := ([0] : List Int)) (inner := [.int .i64 0]) (ok := fun _ => True) (okp := fun _ => True) ?hr ?hp (fun _ hk => hk) trivial (Below.refl _ _) (Nat.le_refl _) (by simp) ?_; (case hd => rfl); (case hg => rfl); (case hr => first | (go_simp; done) | (go_simp; rfl)); (case hp => exact (Reps.one (show Kd.M (Kd.int .i64) _ _ _ 0 [.int .i64 0] from rfl) (Reps.none _ _))); intro v516 w19 ho20 hb hg_ hnew_; clear hg_ hnew_; (first | rw [← Ny515.out] at ho20 | (simp only [Int.reduceToNat] at ho20; rw [← Ny515.out] at ho20)); have n0_ := Aside0.mk (Kd.R_below (by (with_reducible repeat (first | apply Kd.R_alloc | apply Kd.R_drewN | apply Kd.R_drew)); exact HO513.out) hb); have n1_ := Aside0.mk (Kd.R_lower ho20 (below_size (by repeat (first | (with_reducible first | exact HB.out | apply below_alloc | apply pw_below_drewN | apply below_drew1 | refine below_set ?_ GE510.out) | exact HB.out)))); have n2_ := Aside0.mk (blk_below (g := gb510) (o := .cells #[.string a0_0, .slice A0_1 l0_1.length c0_1, .int .i64 a0_2, .slice A0_3 l0_3.length c0_3, .slice A0_4 l0_4.length c0_4] 38 (0, 0)) (by (with_reducible repeat (first | refine blk_drewN ?_ _ | refine blk_drew ?_ | refine blk_alloc ?_ _)); exact BK510.out) hb); have n3_ := Aside0.mk (below_step (by repeat (first | (with_reducible first | exact HB.out | apply below_alloc | apply pw_below_drewN | apply below_drew1 | refine below_set ?_ GE510.out) | exact HB.out)) hb); clear HO513; clear BK510; clear HB; have HO513 := n0_; have HO517 := n1_; have BK510 := n2_; have HB := n3_; clear n0_ n1_ n2_ n3_; clear hb ho20))
     repeat (go_quiet (first | ((with_reducible refine gate_dst (N := 3) rfl ?_); refine box_event ?hg (N := 3) ?hd (cs := #[.string a0_0, .slice A0_1 l0_1.length c0_1, .int .i64 a0_2, .slice A0_3 l0_3.length c0_3, .slice A0_4 l0_4.length c0_4]) (t := 38) ?hr ?_; (case hd => rfl); (case hg => rfl); (case hr => first | (go_simp; done) | (go_simp; rfl)); intro gb510 hg w13 hbox hb; have n0_ := Aside0.mk (below_step (by repeat (first | (with_reducible first | exact HB.out | apply below_alloc | apply pw_below_drewN | apply below_drew1) | exact HB.out)) hb); have n1_ := Aside0.mk (hbox); have n2_ := Aside0.mk ((by rw [hg]; exact (below_size (by repeat (first | (with_reducible first | exact HB.out | apply below_alloc | apply pw_below_drewN | apply below_drew1) | exact HB.out))) : w.heap.size ≤ gb510)); have n3_ := Aside0.mk ((by rw [hg]; exact (below_size (by repeat (first | (with_reducible first | exact HB.out | apply below_alloc | apply pw_below_drewN | apply below_drew1) | exact HB.out))) : w.heap.size ≤ gb510)); clear HB; have HB := n0_; have BK510 := n1_; have GW510 := n2_; have GE510 := n3_; clear n0_ n1_ n2_ n3_; clear hb hbox hg; have hcz14_0 : w13.cell? ⟨gb510, 0, none⟩ = some (.string a0_0) := (blk_cell BK510.out 0).trans rfl; have hcz14_1 : w13.cell? ⟨gb510, 1, none⟩ = some (.slice A0_1 l0_1.length c0_1) := (blk_cell BK510.out 1).trans rfl; have hcz14_2 : w13.cell? ⟨gb510, 2, none⟩ = some (.int .i64 a0_2) := (blk_cell BK510.out 2).trans rfl; have hcz14_3 : w13.cell? ⟨gb510, 3, none⟩ = some (.slice A0_3 l0_3.length c0_3) := (blk_cell BK510.out 3).trans rfl; have hcz14_4 : w13.cell? ⟨gb510, 4, none⟩ = some (.slice A0_4 l0_4.length c0_4) := (blk_cell BK510.out 4).trans rfl; have hfz14_0 := blk_frozen BK510.out 0; have hfz14_1 := blk_frozen BK510.out 1; have hfz14_2 := blk_frozen BK510.out 2; have hfz14_3 := blk_frozen BK510.out 3; have hfz14_4 := blk_frozen BK510.out 4) | ((with_reducible refine gate_dst (N := 15) rfl ?_); refine Kd.R_make Kd.bool _ 4 rfl (N := 15) rfl 76 _ _ rfl (l0_4.length : Int) rfl rfl Try.underlying76 (.bool false) 1 info4 rfl (by decide) (by omega) false (ok := fun _ => True) (okp := fun _ => True) rfl (fun _ hk => hk) trivial (of_decide_eq_true (by first | (with_reducible assumption) | assumption)) (Nat.le_trans (Nat.mul_le_mul_right _ (of_decide_eq_true (by first | (with_reducible assumption) | assumption) : (l0_4.length : Int).toNat ≤ 281474976710656)) (by omega)) (Below.refl _ _) (Nat.le_refl _) ?_; intro v512 w15 ho16 hb hg_ hnew_; clear hg_ hnew_; (first | rw [← Ny511.out] at ho16 | (simp only [Int.reduceToNat] at ho16; rw [← Ny511.out] at ho16)); have n0_ := Aside0.mk (Kd.R_lower ho16 (below_size (by repeat (first | (with_reducible first | exact HB.out | apply below_alloc | apply pw_below_drewN | apply below_drew1 | refine below_set ?_ GE510.out) | exact HB.out)))); have n1_ := Aside0.mk (blk_below (g := gb510) (o := .cells #[.string a0_0, .slice A0_1 l0_1.length c0_1, .int .i64 a0_2, .slice A0_3 l0_3.length c0_3, .slice A0_4 l0_4.length c0_4] 38 (0, 0)) (by (with_reducible repeat (first | refine blk_drewN ?_ _ | refine blk_drew ?_ | refine blk_alloc ?_ _)); exact BK510.out) hb); have n2_ := Aside0.mk (below_step (by repeat (first | (with_reducible first | exact HB.out | apply below_alloc | apply pw_below_drewN | apply below_drew1 | refine below_set ?_ GE510.out) | exact HB.out)) hb); clear BK510; clear HB; have HO513 := n0_; have BK510 := n1_; have HB := n2_; clear n0_ n1_ n2_; clear hb ho16; have p12 : 0 ≤ (0 : Int) := (by omega); have q12 : (0 : Int) < ((y511.length : Int) : Int) := of_decide_eq_true (by first | (with_reducible assumption) | assumption); have qi12 : (0 < y511.length) = True := eq_true (by omega); obtain ⟨go12, co12, eo12, gb12, gl12, cl12, HG12⟩ := Kd.R_form HO513.out (by omega); (first | cases eo12 | (injection eo12 with ea_ en_ ec_; (first | subst ea_ | (injection ea_ with ea_; subst ea_)); subst ec_; clear en_)); have GB12 := Aside0.mk gb12; have GG12 := Aside0.mk HG12; clear gb12 gl12 HG12; obtain ⟨hx12_0, hf12_0⟩ := Kd.R_celln false HO513.out (0 : Int) p12 q12; (try rw [show ((0 : Int)).toNat = 0 from rfl] at hx12_0); (try simp only [Nat.reduceMul, Nat.zero_mul, Nat.zero_add, Nat.reduceAdd] at hx12_0); (try rw [show ((0 : Int)).toNat = 0 from rfl] at hf12_0); (try simp only [Nat.reduceMul, Nat.zero_mul, Nat.zero_add, Nat.reduceAdd] at hf12_0); replace p12 := eq_true p12; replace q12 := eq_true q12; obtain ⟨hy17_, hz17_⟩ := Kd.R_celln false HO513.out (0 : Int) (by omega) (of_decide_eq_true (by first | (with_reducible assumption) | assumption)); (try simp only [Int.reduceToNat, Int.toNat_zero, Int.toNat_ofNat, Nat.reduceMul, Nat.zero_mul, Nat.zero_add] at hy17_ hz17_); (try rw [show ((0 : Int)).toNat = 0 from rfl] at hy17_); (try rw [show ((0 : Int)).toNat = 0 from rfl] at hz17_); have HP17 := Kd.R_putg HO513.out (0 : Int) true) | ((with_reducible refine gate_store (t := 4) (p := 19) rfl ?_); (try (rw [drewN_self w15]; generalize hq_ : World.drewN w15 _ = w15; have n0_ := Aside0.mk (Kd.R_at hq_ HO513.out); have n1_ := Aside0.mk (blk_at hq_ BK510.out); have n2_ := Aside0.mk (below_at hq_ HB.out); clear hq_ HO513 BK510 HB; have HO513 := n0_; have BK510 := n1_; have HB := n2_; clear n0_ n1_ n2_; (try (obtain ⟨hy17_, hz17_⟩ := Kd.R_celln false HO513.out (0 : Int) (by omega) (of_decide_eq_true (by first | (with_reducible assumption) | assumption)))); (try (try simp only [Int.reduceToNat, Int.toNat_zero, Int.toNat_ofNat, Nat.reduceMul, Nat.zero_mul, Nat.zero_add] at hy17_ hz17_)); (try (try rw [show ((0 : Int)).toNat = 0 from rfl] at hy17_)); (try (try rw [show ((0 : Int)).toNat = 0 from rfl] at hz17_)); (try (have HP17 := Kd.R_putg HO513.out (0 : Int) true)))); refine store_event (t := 4) (p := 19) (v := ?vo_w18) (w1 := (w15.setCell ⟨go12, (0 : Int).toNat, none⟩ (.bool true))) ?hg ?ho ?hn ?hr ?_; (case ho => rfl); (case hg => rfl); (case hn => rfl); (case hr => first | (go_simp; done) | (go_simp; rfl)); intro w18 hw; have hg : w15.grownBy w18 (some go12) := (by rw [hw]; exact HP17.2); have hp_ : Kd.R Kd.bool 4 w18 w.heap.size (fun _ => True) (.slice (some ⟨go12, 0, none⟩) y511.length co12) y514 := (by rw [hw, Ny514.out]; exact HP17.1); clear HP17; have n0_ := Aside0.mk (blk_grown (g := gb510) (o := .cells #[.string a0_0, .slice A0_1 l0_1.length c0_1, .int .i64 a0_2, .slice A0_3 l0_3.length c0_3, .slice A0_4 l0_4.length c0_4] 38 (0, 0)) (by (with_reducible repeat (first | refine blk_drewN ?_ _ | refine blk_drew ?_ | refine blk_alloc ?_ _)); exact BK510.out) hg (Kd.R_ne HO513.out BK510.out (by decide))); have n1_ := Aside0.mk (hp_); have n2_ := Aside0.mk ((by rw [hw]; exact below_set (HB.out) GB12.out : Below w.heap.size w w18)); clear BK510; clear HO513; clear HB; have BK510 := n0_; have HO513 := n1_; have HB := n2_; clear n0_ n1_ n2_; clear hg hw hp_) | ((with_reducible refine gate_dst (N := 20) rfl ?_); refine Kd.R_lit (Kd.int .i64) _ 3 ?hg (N := 20) ?hd (xs := ([0] : List Int)) (inner := [.int .i64 0]) (ok := fun _ => True) (okp := fun _ => True) ?hr ?hp (fun _ hk => hk) trivial (Below.refl _ _) (Nat.le_refl _) (by simp) ?_; (case hd => rfl); (case hg => rfl); (case hr => first | (go_simp; done) | (go_simp; rfl)); (case hp => exact (Reps.one (show Kd.M (Kd.int .i64) _ _ _ 0 [.int .i64 0] from rfl) (Reps.none _ _))); intro v516 w19 ho20 hb hg_ hnew_; clear hg_ hnew_; (first | rw [← Ny515.out] at ho20 | (simp only [Int.reduceToNat] at ho20; rw [← Ny515.out] at ho20)); have n0_ := Aside0.mk (Kd.R_below (by (with_reducible repeat (first | apply Kd.R_alloc | apply Kd.R_drewN | apply Kd.R_drew)); exact HO513.out) hb); have n1_ := Aside0.mk (Kd.R_lower ho20 (below_size (by repeat (first | (with_reducible first | exact HB.out | apply below_alloc | apply pw_below_drewN | apply below_drew1 | refine below_set ?_ GE510.out) | exact HB.out)))); have n2_ := Aside0.mk (blk_below (g := gb510) (o := .cells #[.string a0_0, .slice A0_1 l0_1.length c0_1, .int .i64 a0_2, .slice A0_3 l0_3.length c0_3, .slice A0_4 l0_4.length c0_4] 38 (0, 0)) (by (with_reducible repeat (first | refine blk_drewN ?_ _ | refine blk_drew ?_ | refine blk_alloc ?_ _)); exact BK510.out) hb); have n3_ := Aside0.mk (below_step (by repeat (first | (with_reducible first | exact HB.out | apply below_alloc | apply pw_below_drewN | apply below_drew1 | refine below_set ?_ GE510.out) | exact HB.out)) hb); clear HO513; clear BK510; clear HB; have HO513 := n0_; have HO517 := n1_; have BK510 := n2_; have HB := n3_; clear n0_ n1_ n2_ n3_; clear hb ho20)); try go_wp2_with (first | ((with_reducible refine gate_dst (N := 3) rfl ?_); refine box_event ?hg (N := 3) ?hd (cs := #[.string a0_0, .slice A0_1 l0_1.length c0_1, .int .i64 a0_2, .slice A0_3 l0_3.length c0_3, .slice A0_4 l0_4.length c0_4]) (t := 38) ?hr ?_; (case hd => rfl); (case hg => rfl); (case hr => first | (go_simp; done) | (go_simp; rfl)); intro gb510 hg w13 hbox hb; have n0_ := Aside0.mk (below_step (by repeat (first | (with_reducible first | exact HB.out | apply below_alloc | apply pw_below_drewN | apply below_drew1) | exact HB.out)) hb); have n1_ := Aside0.mk (hbox); have n2_ := Aside0.mk ((by rw [hg]; exact (below_size (by repeat (first | (with_reducible first | exact HB.out | apply below_alloc | apply pw_below_drewN | apply below_drew1) | exact HB.out))) : w.heap.size ≤ gb510)); have n3_ := Aside0.mk ((by rw [hg]; exact (below_size (by repeat (first | (with_reducible first | exact HB.out | apply below_alloc | apply pw_below_drewN | apply below_drew1) | exact HB.out))) : w.heap.size ≤ gb510)); clear HB; have HB := n0_; have BK510 := n1_; have GW510 := n2_; have GE510 := n3_; clear n0_ n1_ n2_ n3_; clear hb hbox hg; have hcz14_0 : w13.cell? ⟨gb510, 0, none⟩ = some (.string a0_0) := (blk_cell BK510.out 0).trans rfl; have hcz14_1 : w13.cell? ⟨gb510, 1, none⟩ = some (.slice A0_1 l0_1.length c0_1) := (blk_cell BK510.out 1).trans rfl; have hcz14_2 : w13.cell? ⟨gb510, 2, none⟩ = some (.int .i64 a0_2) := (blk_cell BK510.out 2).trans rfl; have hcz14_3 : w13.cell? ⟨gb510, 3, none⟩ = some (.slice A0_3 l0_3.length c0_3) := (blk_cell BK510.out 3).trans rfl; have hcz14_4 : w13.cell? ⟨gb510, 4, none⟩ = some (.slice A0_4 l0_4.length c0_4) := (blk_cell BK510.out 4).trans rfl; have hfz14_0 := blk_frozen BK510.out 0; have hfz14_1 := blk_frozen BK510.out 1; have hfz14_2 := blk_frozen BK510.out 2; have hfz14_3 := blk_frozen BK510.out 3; have hfz14_4 := blk_frozen BK510.out 4) | ((with_reducible refine gate_dst (N := 15) rfl ?_); refine Kd.R_make Kd.bool _ 4 rfl (N := 15) rfl 76 _ _ rfl (l0_4.length : Int) rfl rfl Try.underlying76 (.bool false) 1 info4 rfl (by decide) (by omega) false (ok := fun _ => True) (okp := fun _ => True) rfl (fun _ hk => hk) trivial (of_decide_eq_true (by first | (with_reducible assumption) | assumption)) (Nat.le_trans (Nat.mul_le_mul_right _ (of_decide_eq_true (by first | (with_reducible assumption) | assumption) : (l0_4.length : Int).toNat ≤ 281474976710656)) (by omega)) (Below.refl _ _) (Nat.le_refl _) ?_; intro v512 w15 ho16 hb hg_ hnew_; clear hg_ hnew_; (first | rw [← Ny511.out] at ho16 | (simp only [Int.reduceToNat] at ho16; rw [← Ny511.out] at ho16)); have n0_ := Aside0.mk (Kd.R_lower ho16 (below_size (by repeat (first | (with_reducible first | exact HB.out | apply below_alloc | apply pw_below_drewN | apply below_drew1 | refine below_set ?_ GE510.out) | exact HB.out)))); have n1_ := Aside0.mk (blk_below (g := gb510) (o := .cells #[.string a0_0, .slice A0_1 l0_1.length c0_1, .int .i64 a0_2, .slice A0_3 l0_3.length c0_3, .slice A0_4 l0_4.length c0_4] 38 (0, 0)) (by (with_reducible repeat (first | refine blk_drewN ?_ _ | refine blk_drew ?_ | refine blk_alloc ?_ _)); exact BK510.out) hb); have n2_ := Aside0.mk (below_step (by repeat (first | (with_reducible first | exact HB.out | apply below_alloc | apply pw_below_drewN | apply below_drew1 | refine below_set ?_ GE510.out) | exact HB.out)) hb); clear BK510; clear HB; have HO513 := n0_; have BK510 := n1_; have HB := n2_; clear n0_ n1_ n2_; clear hb ho16; have p12 : 0 ≤ (0 : Int) := (by omega); have q12 : (0 : Int) < ((y511.length : Int) : Int) := of_decide_eq_true (by first | (with_reducible assumption) | assumption); have qi12 : (0 < y511.length) = True := eq_true (by omega); obtain ⟨go12, co12, eo12, gb12, gl12, cl12, HG12⟩ := Kd.R_form HO513.out (by omega); (first | cases eo12 | (injection eo12 with ea_ en_ ec_; (first | subst ea_ | (injection ea_ with ea_; subst ea_)); subst ec_; clear en_)); have GB12 := Aside0.mk gb12; have GG12 := Aside0.mk HG12; clear gb12 gl12 HG12; obtain ⟨hx12_0, hf12_0⟩ := Kd.R_celln false HO513.out (0 : Int) p12 q12; (try rw [show ((0 : Int)).toNat = 0 from rfl] at hx12_0); (try simp only [Nat.reduceMul, Nat.zero_mul, Nat.zero_add, Nat.reduceAdd] at hx12_0); (try rw [show ((0 : Int)).toNat = 0 from rfl] at hf12_0); (try simp only [Nat.reduceMul, Nat.zero_mul, Nat.zero_add, Nat.reduceAdd] at hf12_0); replace p12 := eq_true p12; replace q12 := eq_true q12; obtain ⟨hy17_, hz17_⟩ := Kd.R_celln false HO513.out (0 : Int) (by omega) (of_decide_eq_true (by first | (with_reducible assumption) | assumption)); (try simp only [Int.reduceToNat, Int.toNat_zero, Int.toNat_ofNat, Nat.reduceMul, Nat.zero_mul, Nat.zero_add] at hy17_ hz17_); (try rw [show ((0 : Int)).toNat = 0 from rfl] at hy17_); (try rw [show ((0 : Int)).toNat = 0 from rfl] at hz17_); have HP17 := Kd.R_putg HO513.out (0 : Int) true) | ((with_reducible refine gate_store (t := 4) (p := 19) rfl ?_); (try (rw [drewN_self w15]; generalize hq_ : World.drewN w15 _ = w15; have n0_ := Aside0.mk (Kd.R_at hq_ HO513.out); have n1_ := Aside0.mk (blk_at hq_ BK510.out); have n2_ := Aside0.mk (below_at hq_ HB.out); clear hq_ HO513 BK510 HB; have HO513 := n0_; have BK510 := n1_; have HB := n2_; clear n0_ n1_ n2_; (try (obtain ⟨hy17_, hz17_⟩ := Kd.R_celln false HO513.out (0 : Int) (by omega) (of_decide_eq_true (by first | (with_reducible assumption) | assumption)))); (try (try simp only [Int.reduceToNat, Int.toNat_zero, Int.toNat_ofNat, Nat.reduceMul, Nat.zero_mul, Nat.zero_add] at hy17_ hz17_)); (try (try rw [show ((0 : Int)).toNat = 0 from rfl] at hy17_)); (try (try rw [show ((0 : Int)).toNat = 0 from rfl] at hz17_)); (try (have HP17 := Kd.R_putg HO513.out (0 : Int) true)))); refine store_event (t := 4) (p := 19) (v := ?vo_w18) (w1 := (w15.setCell ⟨go12, (0 : Int).toNat, none⟩ (.bool true))) ?hg ?ho ?hn ?hr ?_; (case ho => rfl); (case hg => rfl); (case hn => rfl); (case hr => first | (go_simp; done) | (go_simp; rfl)); intro w18 hw; have hg : w15.grownBy w18 (some go12) := (by rw [hw]; exact HP17.2); have hp_ : Kd.R Kd.bool 4 w18 w.heap.size (fun _ => True) (.slice (some ⟨go12, 0, none⟩) y511.length co12) y514 := (by rw [hw, Ny514.out]; exact HP17.1); clear HP17; have n0_ := Aside0.mk (blk_grown (g := gb510) (o := .cells #[.string a0_0, .slice A0_1 l0_1.length c0_1, .int .i64 a0_2, .slice A0_3 l0_3.length c0_3, .slice A0_4 l0_4.length c0_4] 38 (0, 0)) (by (with_reducible repeat (first | refine blk_drewN ?_ _ | refine blk_drew ?_ | refine blk_alloc ?_ _)); exact BK510.out) hg (Kd.R_ne HO513.out BK510.out (by decide))); have n1_ := Aside0.mk (hp_); have n2_ := Aside0.mk ((by rw [hw]; exact below_set (HB.out) GB12.out : Below w.heap.size w w18)); clear BK510; clear HO513; clear HB; have BK510 := n0_; have HO513 := n1_; have HB := n2_; clear n0_ n1_ n2_; clear hg hw hp_) | ((with_reducible refine gate_dst (N := 20) rfl ?_); refine Kd.R_lit (Kd.int .i64) _ 3 ?hg (N := 20) ?hd (xs := ([0] : List Int)) (inner := [.int .i64 0]) (ok := fun _ => True) (okp := fun _ => True) ?hr ?hp (fun _ hk => hk) trivial (Below.refl _ _) (Nat.le_refl _) (by simp) ?_; (case hd => rfl); (case hg => rfl); (case hr => first | (go_simp; done) | (go_simp; rfl)); (case hp => exact (Reps.one (show Kd.M (Kd.int .i64) _ _ _ 0 [.int .i64 0] from rfl) (Reps.none _ _))); intro v516 w19 ho20 hb hg_ hnew_; clear hg_ hnew_; (first | rw [← Ny515.out] at ho20 | (simp only [Int.reduceToNat] at ho20; rw [← Ny515.out] at ho20)); have n0_ := Aside0.mk (Kd.R_below (by (with_reducible repeat (first | apply Kd.R_alloc | apply Kd.R_drewN | apply Kd.R_drew)); exact HO513.out) hb); have n1_ := Aside0.mk (Kd.R_lower ho20 (below_size (by repeat (first | (with_reducible first | exact HB.out | apply below_alloc | apply pw_below_drewN | apply below_drew1 | refine below_set ?_ GE510.out) | exact HB.out)))); have n2_ := Aside0.mk (blk_below (g := gb510) (o := .cells #[.string a0_0, .slice A0_1 l0_1.length c0_1, .int .i64 a0_2, .slice A0_3 l0_3.length c0_3, .slice A0_4 l0_4.length c0_4] 38 (0, 0)) (by (with_reducible repeat (first | refine blk_drewN ?_ _ | refine blk_drew ?_ | refine blk_alloc ?_ _)); exact BK510.out) hb); have n3_ := Aside0.mk (below_step (by repeat (first | (with_reducible first | exact HB.out | apply below_alloc | apply pw_below_drewN | apply below_drew1 | refine below_set ?_ GE510.out) | exact HB.out)) hb); clear HO513; clear BK510; clear HB; have HO513 := n0_; have HO517 := n1_; have BK510 := n2_; have HB := n3_; clear n0_ n1_ n2_ n3_; clear hb ho20)))
     go_loopg [8, 9] k (fun kq v8 v9 w' => ∃ (x7_1 : List Bool) (x8_1 : List Int) (x9_1 : Int), v9 = .int .i64 x9_1 ∧ Aside0 (quernlaw9_met.l0 kq a1 a2 x7_1 x8_1 x9_1 a0_0 l0_1 a0_2 l0_3 l0_4 = some r) ∧ Aside0 (kq ≤ k) ∧ Aside0 (Kd.R Kd.bool 4 w' w.heap.size (fun _ => True) (.slice (some ⟨go12, 0, none⟩) y511.length co12) x7_1) ∧ Aside0 (Kd.R (Kd.int .i64) 3 w' w.heap.size (fun _ => True) v8 x8_1) ∧ Aside0 (w'.heap[gb510]? = some (.cells #[.string a0_0, (.slice A0_1 l0_1.length c0_1), .int .i64 a0_2, (.slice A0_3 l0_3.length c0_3), (.slice A0_4 l0_4.length c0_4)] 38 (0, 0))) ∧ Aside0 (Below w.heap.size w w'))
     case atStart => exact ⟨(y514), (y515), (0), (by first | rfl | (simp; done) | (simp [*]; done)), H', ⟨Nat.le_refl _⟩, ⟨by (with_reducible repeat (first | apply Kd.R_alloc | apply Kd.R_drewN | apply Kd.R_drew)); exact HO513.out⟩, ⟨by (with_reducible repeat (first | apply Kd.R_alloc | apply Kd.R_drewN | apply Kd.R_drew)); exact HO517.out⟩, ⟨by (with_reducible repeat (first | refine blk_drewN ?_ _ | refine blk_drew ?_ | refine blk_alloc ?_ _)); exact BK510.out⟩, ⟨by repeat (first | (with_reducible first | exact HB.out | apply below_alloc | apply pw_below_drewN | apply below_drew1 | refine below_set ?_ GE510.out) | exact HB.out)⟩⟩
     case round =>
      clear H'
      try clear c1
      try clear p1
      try clear q1
      try clear hx1
      try clear qi1
      try clear p2
      try clear c3
      try clear c4
      try clear c4b0
      try clear c4b1
      try clear c5
      try clear c5b0
      try clear c5b1
      try clear c6
      try clear c6b0
      try clear c6b1
      try clear c11
      try clear c11b0
      try clear c11b1
      try clear p12
      try clear q12
      try clear hx12
      try clear qi12
      try clear hf12
      try clear hcz14_0
      try clear hcz14_1
      try clear hcz14_2
      try clear hcz14_3
      try clear hcz14_4
      try clear hcz8_0
      try clear hcz8_1
      try clear hcz8_2
      try clear hcz8_3
      try clear hcz8_4
      try clear hfz14_0
      try clear hfz14_1
      try clear hfz14_2
      try clear hfz14_3
      try clear hfz14_4
      try clear hfz8_0
      try clear hfz8_1
      try clear hfz8_2
      try clear hfz8_3
      try clear hfz8_4
      try clear hx12_0
      try clear p12
      try clear q12
      obtain ⟨x7_1, x8_1, x9_1, rfl, HA, HK1, HO_7, HO_8, BK510, HB⟩ := hrel
      have hl7_1 := (Kd.R_reads' HO_7.out).1
      rw [hl7_1] at HO_7
      (try simp only [hl7_1])
      (try simp only [hl7_1] at BK510)
      (try simp only [hl7_1] at HO_8)
      cases gk with
      | zero => exact absurd HA.out (by simp [quernlaw9_met.l0])
      | succ k1 =>
       have H := HA.out
       clear HA
       simp only [quernlaw9_met.l0] at H
       by_cases c21 : x9_1 < (x8_1.length : Int)
       ·rw [if_pos c21] at H
        have c21b0 : decide (x9_1 < (x8_1.length : Int)) = true := decide_eq_true c21
        clear c21
        by_cases c22 : 0 ≤ x9_1
        ·rw [if_pos c22] at H
         have c22b0 : decide (0 ≤ x9_1) = true := decide_eq_true c22
         clear c22
         by_cases c23 : 0 ≤ (rd x8_1 x9_1)
         ·rw [if_pos c23] at H
          have c23b0 : decide (0 ≤ (rd x8_1 x9_1)) = true := decide_eq_true c23
          clear c23
          by_cases c24 : (rd x8_1 x9_1) < (l0_4.length : Int)
          ·rw [if_pos c24] at H
           have c24b0 : decide ((rd x8_1 x9_1) < (l0_4.length : Int)) = true := decide_eq_true c24
           clear c24
           have H' := Aside0.mk H
           clear H
           obtain ⟨Ao25, co25, eo25⟩ := Kd.R_slice HO_8.out
           subst eo25
           have hcz26_0 : wr.cell? ⟨gb510, 0, none⟩ = some (.string a0_0) := (blk_cell BK510.out 0).trans rfl
           have hcz26_1 : wr.cell? ⟨gb510, 1, none⟩ = some (.slice A0_1 l0_1.length c0_1) := (blk_cell BK510.out 1).trans rfl
           have hcz26_2 : wr.cell? ⟨gb510, 2, none⟩ = some (.int .i64 a0_2) := (blk_cell BK510.out 2).trans rfl
           have hcz26_3 : wr.cell? ⟨gb510, 3, none⟩ = some (.slice A0_3 l0_3.length c0_3) := (blk_cell BK510.out 3).trans rfl
           have hcz26_4 : wr.cell? ⟨gb510, 4, none⟩ = some (.slice A0_4 l0_4.length c0_4) := (blk_cell BK510.out 4).trans rfl
           have hfz26_0 := blk_frozen BK510.out 0
           have hfz26_1 := blk_frozen BK510.out 1
           have hfz26_2 := blk_frozen BK510.out 2
           have hfz26_3 := blk_frozen BK510.out 3
           have hfz26_4 := blk_frozen BK510.out 4
           have p519 : 0 ≤ (x9_1 : Int) := of_decide_eq_true (by first | (with_reducible assumption) | assumption)
           have q519 : x9_1 < (x8_1.length : Int) := of_decide_eq_true (by first | (with_reducible assumption) | assumption)
           obtain ⟨ad519, e519, hx519_0⟩ := Kd.at_int (Kd.R_reads' HO_8.out).2.2 x9_1 p519 q519
           cases e519
           replace p519 := eq_true p519
           replace q519 := eq_true q519
           have p520 : 0 ≤ ((rd x8_1 x9_1) : Int) := of_decide_eq_true (by first | (with_reducible assumption) | assumption)
           have q520 : (rd x8_1 x9_1) < (l0_4.length : Int) := of_decide_eq_true (by first | (with_reducible assumption) | assumption)
           obtain ⟨ad520, A520_0, c520_0, A520_1, c520_1, A520_4, c520_4, A520_5, c520_5, e520, hx520_0, hx520_1, hx520_2, hx520_3, hx520_4, hx520_5, hl520_0, hi520_0, hl520_1, hi520_1, hl520_4, hi520_4, hl520_5, hi520_5⟩ := at_T46 HR0_4.out (rd x8_1 x9_1) p520 q520
           cases e520
           replace hx520_0 := cellA HB hx520_0
           replace hx520_1 := cellA HB hx520_1
           replace hx520_2 := cellA HB hx520_2
           replace hx520_3 := cellA HB hx520_3
           replace hx520_4 := cellA HB hx520_4
           replace hx520_5 := cellA HB hx520_5
           have HR520_0 := Aside0.mk hi520_0
           have HC520_0 := Aside0.mk hl520_0
           clear hi520_0 hl520_0
           have HR520_1 := Aside0.mk hi520_1
           have HC520_1 := Aside0.mk hl520_1
           clear hi520_1 hl520_1
           have HR520_4 := Aside0.mk hi520_4
           have HC520_4 := Aside0.mk hl520_4
           clear hi520_4 hl520_4
           have HR520_5 := Aside0.mk hi520_5
           have HC520_5 := Aside0.mk hl520_5
           clear hi520_5 hl520_5
           replace p520 := eq_true p520
           replace q520 := eq_true q520
           go_wp2
           repeat (go_quiet (fail); try go_wp2)
           go_loopg [8, 11] k1 (fun kq v8 v11 w' => ∃ (x7_2 : List Bool) (x8_2 : List Int) (x11_2 : Int), v11 = .int .i64 x11_2 ∧ Aside0 (quernlaw9_met.l1 kq a1 a2 x7_2 x8_2 x9_1 ((rd_T46 l0_4 (rd x8_1 x9_1)).f2.f2) x11_2 a0_0 l0_1 a0_2 l0_3 l0_4 = some r) ∧ Aside0 (kq ≤ k1) ∧ Aside0 (Kd.R Kd.bool 4 w' w.heap.size (fun _ => True) (.slice (some ⟨go12, 0, none⟩) x7_1.length co12) x7_2) ∧ Aside0 (Kd.R (Kd.int .i64) 3 w' w.heap.size (fun _ => True) v8 x8_2) ∧ Aside0 (w'.heap[gb510]? = some (.cells #[.string a0_0, (.slice A0_1 l0_1.length c0_1), .int .i64 a0_2, (.slice A0_3 l0_3.length c0_3), (.slice (some ad520) l0_4.length c0_4)] 38 (0, 0))) ∧ Aside0 (Below w.heap.size w w'))
           case atStart => exact ⟨(x7_1), (x8_1), (0), (by first | rfl | (simp; done) | (simp [*]; done)), H', ⟨Nat.le_refl _⟩, ⟨by (try simp only [hl7_1]); (with_reducible repeat (first | apply Kd.R_alloc | apply Kd.R_drewN | apply Kd.R_drew)); exact HO_7.out⟩, ⟨by (try simp only [hl7_1]); (with_reducible repeat (first | apply Kd.R_alloc | apply Kd.R_drewN | apply Kd.R_drew)); exact HO_8.out⟩, ⟨by (try simp only [hl7_1]); (with_reducible repeat (first | refine blk_drewN ?_ _ | refine blk_drew ?_ | refine blk_alloc ?_ _)); exact BK510.out⟩, ⟨by repeat (first | (with_reducible first | exact HB.out | apply below_alloc | apply pw_below_drewN | apply below_drew1 | refine below_set ?_ GE510.out) | exact HB.out)⟩⟩
           case round =>
            clear H'
            try clear c1
            try clear p1
            try clear q1
            try clear hx1
            try clear qi1
            try clear c2
            try clear p2
            try clear c3
            try clear c4
            try clear c4b0
            try clear c4b1
            try clear c5
            try clear c5b0
            try clear c5b1
            try clear p5
            try clear q5
            try clear hx5
            try clear c6
            try clear c6b0
            try clear c6b1
            try clear c11
            try clear c11b0
            try clear c11b1
            try clear p12
            try clear q12
            try clear hx12
            try clear qi12
            try clear hf12
            try clear c21
            try clear c21b0
            try clear c22
            try clear c22b0
            try clear c23
            try clear c23b0
            try clear c24
            try clear c24b0
            try clear hcz14_0
            try clear hcz14_1
            try clear hcz14_2
            try clear hcz14_3
            try clear hcz14_4
            try clear hcz26_0
            try clear hcz26_1
            try clear hcz26_2
            try clear hcz26_3
            try clear hcz26_4
            try clear hcz8_0
            try clear hcz8_1
            try clear hcz8_2
            try clear hcz8_3
            try clear hcz8_4
            try clear hfz14_0
            try clear hfz14_1
            try clear hfz14_2
            try clear hfz14_3
            try clear hfz14_4
            try clear hfz26_0
            try clear hfz26_1
            try clear hfz26_2
            try clear hfz26_3
            try clear hfz26_4
            try clear hfz8_0
            try clear hfz8_1
            try clear hfz8_2
            try clear hfz8_3
            try clear hfz8_4
            try clear hx12_0
            try clear hx519_0
            try clear hx520_0
            try clear hx520_1
            try clear hx520_2
            try clear hx520_3
            try clear hx520_4
            try clear hx520_5
            try clear p1
            try clear p12
            try clear p2
            try clear p519
            try clear p520
            try clear q1
            try clear q12
            try clear q519
            try clear q520
            obtain ⟨x7_2, x8_2, x11_2, rfl, HA, HK2, HO_7, HO_8, BK510, HB⟩ := hrel
            have hl7_2 := (Kd.R_reads' HO_7.out).1
            rw [hl7_2] at HO_7
            (try simp only [hl7_2])
            (try simp only [hl7_2] at BK510)
            (try simp only [hl7_2] at HO_8)
            cases gk with
            | zero => exact absurd HA.out (by simp [quernlaw9_met.l1])
            | succ k2 =>
             have H := HA.out
             clear HA
             simp only [quernlaw9_met.l1] at H
             by_cases c27 : x11_2 < (((rd_T46 l0_4 (rd x8_1 x9_1)).f2.f2).length : Int)
             ·rw [if_pos c27] at H
              have c27b0 : decide (x11_2 < (((rd_T46 l0_4 (rd x8_1 x9_1)).f2.f2).length : Int)) = true := decide_eq_true c27
              clear c27
              by_cases c28 : 0 ≤ x11_2
              ·rw [if_pos c28] at H
               have c28b0 : decide (0 ≤ x11_2) = true := decide_eq_true c28
               clear c28
               by_cases c29 : (rd ((rd_T46 l0_4 (rd x8_1 x9_1)).f2.f2) x11_2) = a2
               ·rw [if_pos c29] at H
                have c29b0 : ((rd ((rd_T46 l0_4 (rd x8_1 x9_1)).f2.f2) x11_2) == a2) = true := beq_iff_eq.mpr c29
                have c29b1 : ((rd ((rd_T46 l0_4 (rd x8_1 x9_1)).f2.f2) x11_2) != a2) = false := bne_eq_false_iff_eq.mpr c29
                clear c29
                have H' := Aside0.mk H
                clear H
                have p521 : 0 ≤ (x11_2 : Int) := of_decide_eq_true (by first | (with_reducible assumption) | assumption)
                have q521 : x11_2 < (((rd_T46 l0_4 (rd x8_1 x9_1)).f2.f2).length : Int) := of_decide_eq_true (by first | (with_reducible assumption) | assumption)
                obtain ⟨ad521, e521, hx521_0⟩ := Kd.at_int HR520_4.out x11_2 p521 q521
                cases e521
                replace hx521_0 := cellA HB hx521_0
                replace p521 := eq_true p521
                replace q521 := eq_true q521
                go_wp2
                repeat (go_quiet (fail); try go_wp2)
                (try simp only [← hl7_2])
                go_roundg k2
                case measure => have := HK1.out; have := HK2.out; omega
                case rel => exact ⟨(x7_2), (x8_2), (wrap64 (x11_2 + 1)), (by first | rfl | (simp; done) | (simp [*]; done)), H', ⟨by have := HK1.out; have := HK2.out; omega⟩, ⟨by (try simp only [hl7_1]); (try simp only [hl7_2]); (with_reducible repeat (first | apply Kd.R_alloc | apply Kd.R_drewN | apply Kd.R_drew)); exact HO_7.out⟩, ⟨by (try simp only [hl7_1]); (try simp only [hl7_2]); (with_reducible repeat (first | apply Kd.R_alloc | apply Kd.R_drewN | apply Kd.R_drew)); exact HO_8.out⟩, ⟨by (try simp only [hl7_1]); (try simp only [hl7_2]); (with_reducible repeat (first | refine blk_drewN ?_ _ | refine blk_drew ?_ | refine blk_alloc ?_ _)); exact BK510.out⟩, ⟨by repeat (first | (with_reducible first | exact HB.out | apply below_alloc | apply pw_below_drewN | apply below_drew1 | refine below_set ?_ GE510.out) | exact HB.out)⟩⟩
               ·rw [if_neg c29] at H
                have c29b0 : ((rd ((rd_T46 l0_4 (rd x8_1 x9_1)).f2.f2) x11_2) == a2) = false := beq_eq_false_iff_ne.mpr c29
                have c29b1 : ((rd ((rd_T46 l0_4 (rd x8_1 x9_1)).f2.f2) x11_2) != a2) = true := bne_iff_ne.mpr c29
                by_cases c30 : 0 ≤ (rd ((rd_T46 l0_4 (rd x8_1 x9_1)).f2.f2) x11_2)
                ·rw [if_pos c30] at H
                 have c30b0 : decide (0 ≤ (rd ((rd_T46 l0_4 (rd x8_1 x9_1)).f2.f2) x11_2)) = true := decide_eq_true c30
                 clear c30
                 by_cases c31 : (rd ((rd_T46 l0_4 (rd x8_1 x9_1)).f2.f2) x11_2) < (x7_2.length : Int)
                 ·rw [if_pos c31] at H
                  have c31b0 : decide ((rd ((rd_T46 l0_4 (rd x8_1 x9_1)).f2.f2) x11_2) < (x7_2.length : Int)) = true := decide_eq_true c31
                  clear c31
                  obtain ⟨bq32, hbq32⟩ : ∃ b_ : Bool, b_ = (rdOf false x7_2 (rd ((rd_T46 l0_4 (rd x8_1 x9_1)).f2.f2) x11_2)) := ⟨_, rfl⟩
                  replace H : (if (bq32 = true) then (quernlaw9_met.l1 k2 a1 a2 x7_2 x8_2 x9_1 ((rd_T46 l0_4 (rd x8_1 x9_1)).f2.f2) (wrap64 (x11_2 + 1)) a0_0 l0_1 a0_2 l0_3 l0_4) else (if x8_2.length < 17592186044416 then (quernlaw9_met.l1 k2 a1 a2 (x7_2.set ((rd ((rd_T46 l0_4 (rd x8_1 x9_1)).f2.f2) x11_2) : Int).toNat true) (x8_2 ++ [rd ((rd_T46 l0_4 (rd x8_1 x9_1)).f2.f2) x11_2]) x9_1 ((rd_T46 l0_4 (rd x8_1 x9_1)).f2.f2) (wrap64 (x11_2 + 1)) a0_0 l0_1 a0_2 l0_3 l0_4) else (none))) = some r := by rw [← hbq32] at H; exact H
                  have Nbq32 := Aside0.mk hbq32
                  clear hbq32
                  by_cases c33 : (bq32 = true)
                  ·subst c33
                   have H1 : (quernlaw9_met.l1 k2 a1 a2 x7_2 x8_2 x9_1 ((rd_T46 l0_4 (rd x8_1 x9_1)).f2.f2) (wrap64 (x11_2 + 1)) a0_0 l0_1 a0_2 l0_3 l0_4) = some r := by rw [if_pos rfl] at H; exact H
                   clear H
                   have H := H1
                   clear H1
                   have H' := Aside0.mk H
                   clear H
                   have p521 : 0 ≤ (x11_2 : Int) := of_decide_eq_true (by first | (with_reducible assumption) | assumption)
                   have q521 : x11_2 < (((rd_T46 l0_4 (rd x8_1 x9_1)).f2.f2).length : Int) := of_decide_eq_true (by first | (with_reducible assumption) | assumption)
                   obtain ⟨ad521, e521, hx521_0⟩ := Kd.at_int HR520_4.out x11_2 p521 q521
                   cases e521
                   replace hx521_0 := cellA HB hx521_0
                   replace p521 := eq_true p521
                   replace q521 := eq_true q521
                   have p522 : 0 ≤ (x11_2 : Int) := of_decide_eq_true (by first | (with_reducible assumption) | assumption)
                   have q522 : x11_2 < (((rd_T46 l0_4 (rd x8_1 x9_1)).f2.f2).length : Int) := of_decide_eq_true (by first | (with_reducible assumption) | assumption)
                   obtain ⟨ad522, e522, hx522_0⟩ := Kd.at_int HR520_4.out x11_2 p522 q522
                   obtain rfl : ad521 = ad522 := (by injection e522)
                   replace hx522_0 := cellA HB hx522_0
                   replace p522 := eq_true p522
                   replace q522 := eq_true q522
                   have p523 : 0 ≤ ((rd ((rd_T46 l0_4 (rd x8_1 x9_1)).f2.f2) x11_2) : Int) := of_decide_eq_true (by first | (with_reducible assumption) | assumption)
                   have q523 : (rd ((rd_T46 l0_4 (rd x8_1 x9_1)).f2.f2) x11_2) < (x7_2.length : Int) := of_decide_eq_true (by first | (with_reducible assumption) | assumption)
                   obtain ⟨ad523, e523, hx523_0⟩ := Kd.at_bool (Kd.R_reads' HO_7.out).2.2 (rd ((rd_T46 l0_4 (rd x8_1 x9_1)).f2.f2) x11_2) p523 q523
                   (try rw [← Nbq32.out] at hx523_0)
                   obtain rfl : (⟨go12, 0, none⟩ : Addr) = ad523 := (by injection e523)
                   (first | simp only [add_plain] at hx523_0 | simp only [add_at] at hx523_0 | simp only [Addr.add, Nat.zero_add] at hx523_0 | skip)
                   replace p523 := eq_true p523
                   replace q523 := eq_true q523
                   go_wp2
                   repeat (go_quiet (fail); try go_wp2)
                   (try simp only [← hl7_2])
                   go_roundg k2
                   case measure => have := HK1.out; have := HK2.out; omega
                   case rel => exact ⟨(x7_2), (x8_2), (wrap64 (x11_2 + 1)), (by first | rfl | (simp; done) | (simp [*]; done)), H', ⟨by have := HK1.out; have := HK2.out; omega⟩, ⟨by (try simp only [hl7_1]); (try simp only [hl7_2]); (with_reducible repeat (first | apply Kd.R_alloc | apply Kd.R_drewN | apply Kd.R_drew)); exact HO_7.out⟩, ⟨by (try simp only [hl7_1]); (try simp only [hl7_2]); (with_reducible repeat (first | apply Kd.R_alloc | apply Kd.R_drewN | apply Kd.R_drew)); exact HO_8.out⟩, ⟨by (try simp only [hl7_1]); (try simp only [hl7_2]); (with_reducible repeat (first | refine blk_drewN ?_ _ | refine blk_drew ?_ | refine blk_alloc ?_ _)); exact BK510.out⟩, ⟨by repeat (first | (with_reducible first | exact HB.out | apply below_alloc | apply pw_below_drewN | apply below_drew1 | refine below_set ?_ GE510.out) | exact HB.out)⟩⟩
                  ·replace c33 := Bool.eq_false_iff.mpr c33
                   subst c33
                   have H1 : (if x8_2.length < 17592186044416 then (quernlaw9_met.l1 k2 a1 a2 (x7_2.set ((rd ((rd_T46 l0_4 (rd x8_1 x9_1)).f2.f2) x11_2) : Int).toNat true) (x8_2 ++ [rd ((rd_T46 l0_4 (rd x8_1 x9_1)).f2.f2) x11_2]) x9_1 ((rd_T46 l0_4 (rd x8_1 x9_1)).f2.f2) (wrap64 (x11_2 + 1)) a0_0 l0_1 a0_2 l0_3 l0_4) else (none)) = some r := by rw [if_neg (show ¬ (false = true) by decide)] at H; exact H
                   clear H
                   have H := H1
                   clear H1
                   obtain ⟨y525, hy525⟩ : ∃ y_ : List Bool, y_ = (x7_2.set ((rd ((rd_T46 l0_4 (rd x8_1 x9_1)).f2.f2) x11_2) : Int).toNat true) := ⟨_, rfl⟩
                   replace H : (if x8_2.length < 17592186044416 then (quernlaw9_met.l1 k2 a1 a2 y525 (x8_2 ++ [rd ((rd_T46 l0_4 (rd x8_1 x9_1)).f2.f2) x11_2]) x9_1 ((rd_T46 l0_4 (rd x8_1 x9_1)).f2.f2) (wrap64 (x11_2 + 1)) a0_0 l0_1 a0_2 l0_3 l0_4) else (none)) = some r := by first | (rw [hy525]; with_reducible exact H) | (have H2_ := (Option.bind_some _ _).symm.trans H; rw [hy525]; with_reducible exact H2_) | (have H2_ := (Option.bind_some _ _).symm.trans H; with_reducible exact H2_) | with_reducible exact H | (rw [hy525]; exact H) | exact H
                   have Ny525 := Aside0.mk hy525
                   clear hy525
                   by_cases c35 : x8_2.length < 17592186044416
                   ·rw [if_pos c35] at H
                    have LMc35 := Aside0.mk c35
                    clear c35
                    obtain ⟨y527, hy527⟩ : ∃ y_ : List Int, y_ = (x8_2 ++ [rd ((rd_T46 l0_4 (rd x8_1 x9_1)).f2.f2) x11_2]) := ⟨_, rfl⟩
                    replace H : (quernlaw9_met.l1 k2 a1 a2 y525 y527 x9_1 ((rd_T46 l0_4 (rd x8_1 x9_1)).f2.f2) (wrap64 (x11_2 + 1)) a0_0 l0_1 a0_2 l0_3 l0_4) = some r := by first | (rw [hy527]; with_reducible exact H) | (have H2_ := (Option.bind_some _ _).symm.trans H; rw [hy527]; with_reducible exact H2_) | (have H2_ := (Option.bind_some _ _).symm.trans H; with_reducible exact H2_) | with_reducible exact H | (rw [hy527]; exact H) | exact H
                    have Ny527 := Aside0.mk hy527
                    clear hy527
                    have H' := Aside0.mk H
                    clear H
                    have p521 : 0 ≤ (x11_2 : Int) := of_decide_eq_true (by first | (with_reducible assumption) | assumption)
                    have q521 : x11_2 < (((rd_T46 l0_4 (rd x8_1 x9_1)).f2.f2).length : Int) := of_decide_eq_true (by first | (with_reducible assumption) | assumption)
                    obtain ⟨ad521, e521, hx521_0⟩ := Kd.at_int HR520_4.out x11_2 p521 q521
                    cases e521
                    replace hx521_0 := cellA HB hx521_0
                    replace p521 := eq_true p521
                    replace q521 := eq_true q521
                    have p522 : 0 ≤ (x11_2 : Int) := of_decide_eq_true (by first | (with_reducible assumption) | assumption)
                    have q522 : x11_2 < (((rd_T46 l0_4 (rd x8_1 x9_1)).f2.f2).length : Int) := of_decide_eq_true (by first | (with_reducible assumption) | assumption)
                    obtain ⟨ad522, e522, hx522_0⟩ := Kd.at_int HR520_4.out x11_2 p522 q522
                    obtain rfl : ad521 = ad522 := (by injection e522)
                    replace hx522_0 := cellA HB hx522_0
                    replace p522 := eq_true p522
                    replace q522 := eq_true q522
                    have p523 : 0 ≤ ((rd ((rd_T46 l0_4 (rd x8_1 x9_1)).f2.f2) x11_2) : Int) := of_decide_eq_true (by first | (with_reducible assumption) | assumption)
                    have q523 : (rd ((rd_T46 l0_4 (rd x8_1 x9_1)).f2.f2) x11_2) < (x7_2.length : Int) := of_decide_eq_true (by first | (with_reducible assumption) | assumption)
                    obtain ⟨ad523, e523, hx523_0⟩ := Kd.at_bool (Kd.R_reads' HO_7.out).2.2 (rd ((rd_T46 l0_4 (rd x8_1 x9_1)).f2.f2) x11_2) p523 q523
                    (try rw [← Nbq32.out] at hx523_0)
                    obtain rfl : (⟨go12, 0, none⟩ : Addr) = ad523 := (by injection e523)
                    (first | simp only [add_plain] at hx523_0 | simp only [add_at] at hx523_0 | simp only [Addr.add, Nat.zero_add] at hx523_0 | skip)
                    replace p523 := eq_true p523
                    replace q523 := eq_true q523
                    have p524 : 0 ≤ (x11_2 : Int) := of_decide_eq_true (by first | (with_reducible assumption) | assumption)
                    have q524 : x11_2 < (((rd_T46 l0_4 (rd x8_1 x9_1)).f2.f2).length : Int) := of_decide_eq_true (by first | (with_reducible assumption) | assumption)
                    obtain ⟨ad524, e524, hx524_0⟩ := Kd.at_int HR520_4.out x11_2 p524 q524
                    obtain rfl : ad521 = ad524 := (by injection e524)
                    replace hx524_0 := cellA HB hx524_0
                    replace p524 := eq_true p524
                    replace q524 := eq_true q524
                    have p34 : 0 ≤ ((rd ((rd_T46 l0_4 (rd x8_1 x9_1)).f2.f2) x11_2) : Int) := of_decide_eq_true (by first | (with_reducible assumption) | assumption)
                    have q34 : ((rd ((rd_T46 l0_4 (rd x8_1 x9_1)).f2.f2) x11_2) : Int) < ((x7_2.length : Int) : Int) := of_decide_eq_true (by first | (with_reducible assumption) | assumption)
                    obtain ⟨hx34_0, hf34_0⟩ := Kd.R_celln false HO_7.out ((rd ((rd_T46 l0_4 (rd x8_1 x9_1)).f2.f2) x11_2) : Int) p34 q34
                    replace p34 := eq_true p34
                    replace q34 := eq_true q34
                    have HP36 := Kd.R_putg HO_7.out ((rd ((rd_T46 l0_4 (rd x8_1 x9_1)).f2.f2) x11_2) : Int) true
                    go_wp2_with (first | ((with_reducible refine gate_store (t := 4) (p := 64) rfl ?_); (try (rw [drewN_self wr]; generalize hq_ : World.drewN wr _ = wr; have n0_ := Aside0.mk (Kd.R_at hq_ HO_7.out); have n1_ := Aside0.mk (Kd.R_at hq_ HO_8.out); have n2_ := Aside0.mk (blk_at hq_ BK510.out); have n3_ := Aside0.mk (below_at hq_ HB.out); clear hq_ HO_7 HO_8 BK510 HB; have HO_7 := n0_; have HO_8 := n1_; have BK510 := n2_; have HB := n3_; clear n0_ n1_ n2_ n3_; (try (have HP36 := Kd.R_putg HO_7.out ((rd ((rd_T46 l0_4 (rd x8_1 x9_1)).f2.f2) x11_2) : Int) true)))); refine store_event (t := 4) (p := 64) (v := ?vo_w37) (w1 := (wr.setCell ⟨go12, ((rd ((rd_T46 l0_4 (rd x8_1 x9_1)).f2.f2) x11_2) : Int).toNat, none⟩ (.bool true))) ?hg ?ho ?hn ?hr ?_; (case ho => rfl); (case hg => rfl); (case hn => rfl); (case hr => first | (go_simp; done) | (go_simp; rfl)); intro w37 hw; have hg : wr.grownBy w37 (some go12) := (by rw [hw]; exact HP36.2); have hp_ : Kd.R Kd.bool 4 w37 w.heap.size (fun _ => True) (.slice (some ⟨go12, 0, none⟩) x7_2.length co12) y525 := (by rw [hw, Ny525.out]; exact HP36.1); clear HP36; have n0_ := Aside0.mk (hp_); have n1_ := Aside0.mk (Kd.R_over' (v := (.slice (some ⟨go12, 0, none⟩) x7_2.length co12)) (by (with_reducible repeat (first | apply Kd.R_alloc | apply Kd.R_drewN | apply Kd.R_drew)); exact HO_8.out) (Kd.R_typed HO_7.out) (by decide) hg); have n2_ := Aside0.mk (blk_grown (g := gb510) (o := .cells #[.string a0_0, .slice A0_1 l0_1.length c0_1, .int .i64 a0_2, .slice A0_3 l0_3.length c0_3, .slice (some ad520) l0_4.length c0_4] 38 (0, 0)) (by (with_reducible repeat (first | refine blk_drewN ?_ _ | refine blk_drew ?_ | refine blk_alloc ?_ _)); exact BK510.out) hg (Kd.R_ne HO_7.out BK510.out (by decide))); have n3_ := Aside0.mk ((by rw [hw]; exact below_set (HB.out) GB12.out : Below w.heap.size w w37)); clear HO_7; clear HO_8; clear BK510; clear HB; have HO_7 := n0_; have HO_8 := n1_; have BK510 := n2_; have HB := n3_; clear n0_ n1_ n2_ n3_; clear hg hw hp_; have p526 : 0 ≤ (x11_2 : Int) := of_decide_eq_true (by first | (with_reducible assumption) | assumption); have q526 : x11_2 < (((rd_T46 l0_4 (rd x8_1 x9_1)).f2.f2).length : Int) := of_decide_eq_true (by first | (with_reducible assumption) | assumption); obtain ⟨ad526, e526, hx526_0⟩ := Kd.at_int HR520_4.out x11_2 p526 q526; obtain rfl : ad521 = ad526 := (by injection e526); replace hx526_0 := cellA HB hx526_0; replace p526 := eq_true p526; replace q526 := eq_true q526) | ((with_reducible refine gate_builtin (b := .append) (xs := #[.tmp 65, .tmp 70]) rfl ?_); at_builtin; refine Kd.R_append (Kd.int .i64) (w0 := w) w.heap.size rfl (.tmp 65) (.tmp 70) 34 3 (.int .i64 0) 8 rfl Try.underlying34 info3 rfl (by decide) (by omega) u8 x8_2 (rd ((rd_T46 l0_4 (rd x8_1 x9_1)).f2.f2) x11_2) [.int .i64 (rd ((rd_T46 l0_4 (rd x8_1 x9_1)).f2.f2) x11_2)] (fun _ => True) (fun _ => False) rfl rfl ?aP (fun _ hk => hk.elim) ?aF ?aO ?aB ?aS ?aL ?_; (case aP => exact rfl); (case aB => exact (by repeat (first | (with_reducible first | exact HB.out | apply below_alloc | apply pw_below_drewN | apply below_drew1 | refine below_set ?_ GE510.out) | exact HB.out))); (case aF => exact (fun _ _ => trivial)); (case aO => exact (by (with_reducible repeat (first | apply Kd.R_alloc | apply Kd.R_drewN | apply Kd.R_drew)); exact HO_8.out)); (case aS => exact (below_size (by repeat (first | (with_reducible first | exact HB.out | apply below_alloc | apply pw_below_drewN | apply below_drew1 | refine below_set ?_ GE510.out) | exact HB.out)))); (case aL => have := LMc35.out; omega); intro v528 w38 ho hb hg hat; rw [← Ny527.out] at ho; have n0_ := Aside0.mk (Kd.R_over' (by (with_reducible repeat (first | apply Kd.R_alloc | apply Kd.R_drewN | apply Kd.R_drew)); exact HO_7.out) (Kd.R_typed (by (with_reducible repeat (first | apply Kd.R_alloc | apply Kd.R_drewN | apply Kd.R_drew)); exact HO_8.out)) (by decide) hg); have n1_ := Aside0.mk (blk_grown (g := gb510) (o := .cells #[.string a0_0, .slice A0_1 l0_1.length c0_1, .int .i64 a0_2, .slice A0_3 l0_3.length c0_3, .slice (some ad520) l0_4.length c0_4] 38 (0, 0)) (by (with_reducible repeat (first | refine blk_drewN ?_ _ | refine blk_drew ?_ | refine blk_alloc ?_ _)); exact BK510.out) hg (Kd.R_ne HO_8.out BK510.out (by decide))); have n2_ := Aside0.mk (hb); have n3_ := Aside0.mk (ho); clear HO_7; clear BK510; clear HB; clear HO_8; have HO_7 := n0_; have BK510 := n1_; have HB := n2_; have HO529 := n3_; clear n0_ n1_ n2_ n3_; clear ho hb hg hat))
                    repeat (go_quiet (first | ((with_reducible refine gate_store (t := 4) (p := 64) rfl ?_); (try (rw [drewN_self wr]; generalize hq_ : World.drewN wr _ = wr; have n0_ := Aside0.mk (Kd.R_at hq_ HO_7.out); have n1_ := Aside0.mk (Kd.R_at hq_ HO_8.out); have n2_ := Aside0.mk (blk_at hq_ BK510.out); have n3_ := Aside0.mk (below_at hq_ HB.out); clear hq_ HO_7 HO_8 BK510 HB; have HO_7 := n0_; have HO_8 := n1_; have BK510 := n2_; have HB := n3_; clear n0_ n1_ n2_ n3_; (try (have HP36 := Kd.R_putg HO_7.out ((rd ((rd_T46 l0_4 (rd x8_1 x9_1)).f2.f2) x11_2) : Int) true)))); refine store_event (t := 4) (p := 64) (v := ?vo_w37) (w1 := (wr.setCell ⟨go12, ((rd ((rd_T46 l0_4 (rd x8_1 x9_1)).f2.f2) x11_2) : Int).toNat, none⟩ (.bool true))) ?hg ?ho ?hn ?hr ?_; (case ho => rfl); (case hg => rfl); (case hn => rfl); (case hr => first | (go_simp; done) | (go_simp; rfl)); intro w37 hw; have hg : wr.grownBy w37 (some go12) := (by rw [hw]; exact HP36.2); have hp_ : Kd.R Kd.bool 4 w37 w.heap.size (fun _ => True) (.slice (some ⟨go12, 0, none⟩) x7_2.length co12) y525 := (by rw [hw, Ny525.out]; exact HP36.1); clear HP36; have n0_ := Aside0.mk (hp_); have n1_ := Aside0.mk (Kd.R_over' (v := (.slice (some ⟨go12, 0, none⟩) x7_2.length co12)) (by (with_reducible repeat (first | apply Kd.R_alloc | apply Kd.R_drewN | apply Kd.R_drew)); exact HO_8.out) (Kd.R_typed HO_7.out) (by decide) hg); have n2_ := Aside0.mk (blk_grown (g := gb510) (o := .cells #[.string a0_0, .slice A0_1 l0_1.length c0_1, .int .i64 a0_2, .slice A0_3 l0_3.length c0_3, .slice (some ad520) l0_4.length c0_4] 38 (0, 0)) (by (with_reducible repeat (first | refine blk_drewN ?_ _ | refine blk_drew ?_ | refine blk_alloc ?_ _)); exact BK510.out) hg (Kd.R_ne HO_7.out BK510.out (by decide))); have n3_ := Aside0.mk ((by rw [hw]; exact below_set (HB.out) GB12.out : Below w.heap.size w w37)); clear HO_7; clear HO_8; clear BK510; clear HB; have HO_7 := n0_; have HO_8 := n1_; have BK510 := n2_; have HB := n3_; clear n0_ n1_ n2_ n3_; clear hg hw hp_; have p526 : 0 ≤ (x11_2 : Int) := of_decide_eq_true (by first | (with_reducible assumption) | assumption); have q526 : x11_2 < (((rd_T46 l0_4 (rd x8_1 x9_1)).f2.f2).length : Int) := of_decide_eq_true (by first | (with_reducible assumption) | assumption); obtain ⟨ad526, e526, hx526_0⟩ := Kd.at_int HR520_4.out x11_2 p526 q526; obtain rfl : ad521 = ad526 := (by injection e526); replace hx526_0 := cellA HB hx526_0; replace p526 := eq_true p526; replace q526 := eq_true q526) | ((with_reducible refine gate_builtin (b := .append) (xs := #[.tmp 65, .tmp 70]) rfl ?_); at_builtin; refine Kd.R_append (Kd.int .i64) (w0 := w) w.heap.size rfl (.tmp 65) (.tmp 70) 34 3 (.int .i64 0) 8 rfl Try.underlying34 info3 rfl (by decide) (by omega) u8 x8_2 (rd ((rd_T46 l0_4 (rd x8_1 x9_1)).f2.f2) x11_2) [.int .i64 (rd ((rd_T46 l0_4 (rd x8_1 x9_1)).f2.f2) x11_2)] (fun _ => True) (fun _ => False) rfl rfl ?aP (fun _ hk => hk.elim) ?aF ?aO ?aB ?aS ?aL ?_; (case aP => exact rfl); (case aB => exact (by repeat (first | (with_reducible first | exact HB.out | apply below_alloc | apply pw_below_drewN | apply below_drew1 | refine below_set ?_ GE510.out) | exact HB.out))); (case aF => exact (fun _ _ => trivial)); (case aO => exact (by (with_reducible repeat (first | apply Kd.R_alloc | apply Kd.R_drewN | apply Kd.R_drew)); exact HO_8.out)); (case aS => exact (below_size (by repeat (first | (with_reducible first | exact HB.out | apply below_alloc | apply pw_below_drewN | apply below_drew1 | refine below_set ?_ GE510.out) | exact HB.out)))); (case aL => have := LMc35.out; omega); intro v528 w38 ho hb hg hat; rw [← Ny527.out] at ho; have n0_ := Aside0.mk (Kd.R_over' (by (with_reducible repeat (first | apply Kd.R_alloc | apply Kd.R_drewN | apply Kd.R_drew)); exact HO_7.out) (Kd.R_typed (by (with_reducible repeat (first | apply Kd.R_alloc | apply Kd.R_drewN | apply Kd.R_drew)); exact HO_8.out)) (by decide) hg); have n1_ := Aside0.mk (blk_grown (g := gb510) (o := .cells #[.string a0_0, .slice A0_1 l0_1.length c0_1, .int .i64 a0_2, .slice A0_3 l0_3.length c0_3, .slice (some ad520) l0_4.length c0_4] 38 (0, 0)) (by (with_reducible repeat (first | refine blk_drewN ?_ _ | refine blk_drew ?_ | refine blk_alloc ?_ _)); exact BK510.out) hg (Kd.R_ne HO_8.out BK510.out (by decide))); have n2_ := Aside0.mk (hb); have n3_ := Aside0.mk (ho); clear HO_7; clear BK510; clear HB; clear HO_8; have HO_7 := n0_; have BK510 := n1_; have HB := n2_; have HO529 := n3_; clear n0_ n1_ n2_ n3_; clear ho hb hg hat)); try go_wp2_with (first | ((with_reducible refine gate_store (t := 4) (p := 64) rfl ?_); (try (rw [drewN_self wr]; generalize hq_ : World.drewN wr _ = wr; have n0_ := Aside0.mk (Kd.R_at hq_ HO_7.out); have n1_ := Aside0.mk (Kd.R_at hq_ HO_8.out); have n2_ := Aside0.mk (blk_at hq_ BK510.out); have n3_ := Aside0.mk (below_at hq_ HB.out); clear hq_ HO_7 HO_8 BK510 HB; have HO_7 := n0_; have HO_8 := n1_; have BK510 := n2_; have HB := n3_; clear n0_ n1_ n2_ n3_; (try (have HP36 := Kd.R_putg HO_7.out ((rd ((rd_T46 l0_4 (rd x8_1 x9_1)).f2.f2) x11_2) : Int) true)))); refine store_event (t := 4) (p := 64) (v := ?vo_w37) (w1 := (wr.setCell ⟨go12, ((rd ((rd_T46 l0_4 (rd x8_1 x9_1)).f2.f2) x11_2) : Int).toNat, none⟩ (.bool true))) ?hg ?ho ?hn ?hr ?_; (case ho => rfl); (case hg => rfl); (case hn => rfl); (case hr => first | (go_simp; done) | (go_simp; rfl)); intro w37 hw; have hg : wr.grownBy w37 (some go12) := (by rw [hw]; exact HP36.2); have hp_ : Kd.R Kd.bool 4 w37 w.heap.size (fun _ => True) (.slice (some ⟨go12, 0, none⟩) x7_2.length co12) y525 := (by rw [hw, Ny525.out]; exact HP36.1); clear HP36; have n0_ := Aside0.mk (hp_); have n1_ := Aside0.mk (Kd.R_over' (v := (.slice (some ⟨go12, 0, none⟩) x7_2.length co12)) (by (with_reducible repeat (first | apply Kd.R_alloc | apply Kd.R_drewN | apply Kd.R_drew)); exact HO_8.out) (Kd.R_typed HO_7.out) (by decide) hg); have n2_ := Aside0.mk (blk_grown (g := gb510) (o := .cells #[.string a0_0, .slice A0_1 l0_1.length c0_1, .int .i64 a0_2, .slice A0_3 l0_3.length c0_3, .slice (some ad520) l0_4.length c0_4] 38 (0, 0)) (by (with_reducible repeat (first | refine blk_drewN ?_ _ | refine blk_drew ?_ | refine blk_alloc ?_ _)); exact BK510.out) hg (Kd.R_ne HO_7.out BK510.out (by decide))); have n3_ := Aside0.mk ((by rw [hw]; exact below_set (HB.out) GB12.out : Below w.heap.size w w37)); clear HO_7; clear HO_8; clear BK510; clear HB; have HO_7 := n0_; have HO_8 := n1_; have BK510 := n2_; have HB := n3_; clear n0_ n1_ n2_ n3_; clear hg hw hp_; have p526 : 0 ≤ (x11_2 : Int) := of_decide_eq_true (by first | (with_reducible assumption) | assumption); have q526 : x11_2 < (((rd_T46 l0_4 (rd x8_1 x9_1)).f2.f2).length : Int) := of_decide_eq_true (by first | (with_reducible assumption) | assumption); obtain ⟨ad526, e526, hx526_0⟩ := Kd.at_int HR520_4.out x11_2 p526 q526; obtain rfl : ad521 = ad526 := (by injection e526); replace hx526_0 := cellA HB hx526_0; replace p526 := eq_true p526; replace q526 := eq_true q526) | ((with_reducible refine gate_builtin (b := .append) (xs := #[.tmp 65, .tmp 70]) rfl ?_); at_builtin; refine Kd.R_append (Kd.int .i64) (w0 := w) w.heap.size rfl (.tmp 65) (.tmp 70) 34 3 (.int .i64 0) 8 rfl Try.underlying34 info3 rfl (by decide) (by omega) u8 x8_2 (rd ((rd_T46 l0_4 (rd x8_1 x9_1)).f2.f2) x11_2) [.int .i64 (rd ((rd_T46 l0_4 (rd x8_1 x9_1)).f2.f2) x11_2)] (fun _ => True) (fun _ => False) rfl rfl ?aP (fun _ hk => hk.elim) ?aF ?aO ?aB ?aS ?aL ?_; (case aP => exact rfl); (case aB => exact (by repeat (first | (with_reducible first | exact HB.out | apply below_alloc | apply pw_below_drewN | apply below_drew1 | refine below_set ?_ GE510.out) | exact HB.out))); (case aF => exact (fun _ _ => trivial)); (case aO => exact (by (with_reducible repeat (first | apply Kd.R_alloc | apply Kd.R_drewN | apply Kd.R_drew)); exact HO_8.out)); (case aS => exact (below_size (by repeat (first | (with_reducible first | exact HB.out | apply below_alloc | apply pw_below_drewN | apply below_drew1 | refine below_set ?_ GE510.out) | exact HB.out)))); (case aL => have := LMc35.out; omega); intro v528 w38 ho hb hg hat; rw [← Ny527.out] at ho; have n0_ := Aside0.mk (Kd.R_over' (by (with_reducible repeat (first | apply Kd.R_alloc | apply Kd.R_drewN | apply Kd.R_drew)); exact HO_7.out) (Kd.R_typed (by (with_reducible repeat (first | apply Kd.R_alloc | apply Kd.R_drewN | apply Kd.R_drew)); exact HO_8.out)) (by decide) hg); have n1_ := Aside0.mk (blk_grown (g := gb510) (o := .cells #[.string a0_0, .slice A0_1 l0_1.length c0_1, .int .i64 a0_2, .slice A0_3 l0_3.length c0_3, .slice (some ad520) l0_4.length c0_4] 38 (0, 0)) (by (with_reducible repeat (first | refine blk_drewN ?_ _ | refine blk_drew ?_ | refine blk_alloc ?_ _)); exact BK510.out) hg (Kd.R_ne HO_8.out BK510.out (by decide))); have n2_ := Aside0.mk (hb); have n3_ := Aside0.mk (ho); clear HO_7; clear BK510; clear HB; clear HO_8; have HO_7 := n0_; have BK510 := n1_; have HB := n2_; have HO529 := n3_; clear n0_ n1_ n2_ n3_; clear ho hb hg hat)))
                    (try simp only [← hl7_2])
                    go_roundg k2
                    case measure => have := HK1.out; have := HK2.out; omega
                    case rel => exact ⟨(y525), (y527), (wrap64 (x11_2 + 1)), (by first | rfl | (simp; done) | (simp [*]; done)), H', ⟨by have := HK1.out; have := HK2.out; omega⟩, ⟨by (try simp only [hl7_1]); (try simp only [hl7_2]); (with_reducible repeat (first | apply Kd.R_alloc | apply Kd.R_drewN | apply Kd.R_drew)); exact HO_7.out⟩, ⟨by (try simp only [hl7_1]); (try simp only [hl7_2]); (with_reducible repeat (first | apply Kd.R_alloc | apply Kd.R_drewN | apply Kd.R_drew)); exact HO529.out⟩, ⟨by (try simp only [hl7_1]); (try simp only [hl7_2]); (with_reducible repeat (first | refine blk_drewN ?_ _ | refine blk_drew ?_ | refine blk_alloc ?_ _)); exact BK510.out⟩, ⟨by repeat (first | (with_reducible first | exact HB.out | apply below_alloc | apply pw_below_drewN | apply below_drew1 | refine below_set ?_ GE510.out) | exact HB.out)⟩⟩
                   ·rw [if_neg c35] at H
                    exact absurd H (by simp)
                 ·rw [if_neg c31] at H
                  exact absurd H (by simp)
                ·rw [if_neg c30] at H
                 exact absurd H (by simp)
              ·rw [if_neg c28] at H
               exact absurd H (by simp)
             ·rw [if_neg c27] at H
              have c27b0 : decide (x11_2 < (((rd_T46 l0_4 (rd x8_1 x9_1)).f2.f2).length : Int)) = false := decide_eq_false c27
              clear c27
              have H' := Aside0.mk H
              clear H
              go_wp2
              repeat (go_quiet (fail); try go_wp2)
              (try simp only [← hl7_1, ← hl7_2])
              go_roundg k2
              case measure => have := HK1.out; have := HK2.out; omega
              case rel => exact ⟨(x7_2), (x8_2), (wrap64 (x9_1 + 1)), (by first | rfl | (simp; done) | (simp [*]; done)), H', ⟨by have := HK1.out; have := HK2.out; omega⟩, ⟨by (try simp only [hl7_1]); (try simp only [hl7_2]); (with_reducible repeat (first | apply Kd.R_alloc | apply Kd.R_drewN | apply Kd.R_drew)); exact HO_7.out⟩, ⟨by (try simp only [hl7_1]); (try simp only [hl7_2]); (with_reducible repeat (first | apply Kd.R_alloc | apply Kd.R_drewN | apply Kd.R_drew)); exact HO_8.out⟩, ⟨by (try simp only [hl7_1]); (try simp only [hl7_2]); (with_reducible repeat (first | refine blk_drewN ?_ _ | refine blk_drew ?_ | refine blk_alloc ?_ _)); exact BK510.out⟩, ⟨by repeat (first | (with_reducible first | exact HB.out | apply below_alloc | apply pw_below_drewN | apply below_drew1 | refine below_set ?_ GE510.out) | exact HB.out)⟩⟩
          ·rw [if_neg c24] at H
           exact absurd H (by simp)
         ·rw [if_neg c23] at H
          exact absurd H (by simp)
        ·rw [if_neg c22] at H
         exact absurd H (by simp)
       ·rw [if_neg c21] at H
        have c21b0 : decide (x9_1 < (x8_1.length : Int)) = false := decide_eq_false c21
        clear c21
        by_cases c39 : 0 ≤ a1
        ·rw [if_pos c39] at H
         have c39b0 : decide (0 ≤ a1) = true := decide_eq_true c39
         clear c39
         by_cases c40 : a1 < (x7_1.length : Int)
         ·rw [if_pos c40] at H
          have c40b0 : decide (a1 < (x7_1.length : Int)) = true := decide_eq_true c40
          clear c40
          obtain rfl := Option.some.inj H
          obtain ⟨Ao41, co41, eo41⟩ := Kd.R_slice HO_8.out
          subst eo41
          have p518 : 0 ≤ (a1 : Int) := of_decide_eq_true (by first | (with_reducible assumption) | assumption)
          have q518 : a1 < (x7_1.length : Int) := of_decide_eq_true (by first | (with_reducible assumption) | assumption)
          obtain ⟨ad518, e518, hx518_0⟩ := Kd.at_bool (Kd.R_reads' HO_7.out).2.2 a1 p518 q518
          obtain rfl : (⟨go12, 0, none⟩ : Addr) = ad518 := (by injection e518)
          (first | simp only [add_plain] at hx518_0 | simp only [add_at] at hx518_0 | simp only [Addr.add, Nat.zero_add] at hx518_0 | skip)
          replace p518 := eq_true p518
          replace q518 := eq_true q518
          go_wp2
          repeat (go_quiet (fail); try go_wp2)
          go_ret
          exact ⟨by first | rfl | (simp [errW_none, errW_some] <;> rfl) | (simp [*, errW_none, errW_some] <;> rfl), by repeat (first | (with_reducible first | exact HB.out | apply below_alloc | apply pw_below_drewN | apply below_drew1 | refine below_set ?_ GE510.out) | exact HB.out)⟩
         ·rw [if_neg c40] at H
          exact absurd H (by simp)
        ·rw [if_neg c39] at H
         exact absurd H (by simp)
    ·rw [if_neg c11] at H
     exact absurd H (by simp)
  ·rw [if_neg c5] at H
   exact absurd H (by simp)
 ·rw [if_neg c4] at H
  exact absurd H (by simp)
def quernlaw9_there.f (k : Nat) (a0_0 : ByteArray) (l0_1 : List Int) (a0_2 : Int) (l0_3 : List (S42)) (l0_4 : List (S46)) (l1 : List (S67)) (a2 : Int) (a3 : Int) : Option (Bool) := if 0 ≤ a2 then (if a2 < (l1.length : Int) then (if ((rd_T67 l1 a2).f0) < 0 then (some true) else ((quernlaw9_met.f k a0_0 l0_1 a0_2 l0_3 l0_4 a3 ((rd_T67 l1 a2).f0)).bind fun t533 => (some (!t533)))) else (none)) else (none)
theorem quernlaw9_there.mono : ∀ a0 a1 a2 a3 a4 a5 a6 a7 k, LeO (quernlaw9_there.f k a0 a1 a2 a3 a4 a5 a6 a7) (quernlaw9_there.f (k + 1) a0 a1 a2 a3 a4 a5 a6 a7) := by
 intro a0 a1 a2 a3 a4 a5 a6 a7 k
 unfold quernlaw9_there.f
 repeat' first
   | (with_reducible exact quernlaw9_met.mono _ _ _ _ _ _ _ _)
   | (with_reducible exact LeO.refl _)
   | (with_reducible exact LeO.none _)
   | (with_reducible refine LeO.ite ?_ ?_)
   | (with_reducible refine LeO.bind ?_ (fun _ => ?_))
   | exact quernlaw9_met.mono _ _ _ _ _ _ _ _
   | exact LeO.none _
   | refine LeO.ite ?_ ?_
   | refine LeO.bind ?_ (fun _ => ?_)
def quernlaw9_there.T1 : Bool × List (List Nat × List Nat) := (true, [([], []), ([], []), ([0, 1], [0, 1]), ([2], [2]), ([3], [3]), ([4], [4]), ([5], [5]), ([6], [6]), ([6], [6]), ([6], [6]), ([6], [6]), ([9, 10, 6], [6, 9, 10]), ([11, 6], [6, 11]), ([12, 6], [6, 12]), ([7, 8, 13, 6, 6], [6, 7, 8, 13]), ([14, 6], [6, 14]), ([6, 15], [6, 15]), ([16, 14, 0, 1, 2, 3, 4, 5, 6, 7, 8, 9, 10, 11, 12, 13, 14, 15, 16], [16])])
def quernlaw9_there.B1 : List Nat := [0, 0, 3, 7, 15, 31, 63, 127, 127, 127, 127, 1663, 3711, 7807, 16383, 32767, 65535, 131071]
theorem quernlaw9_there.tab1 : rtab .any (opsOf Try.f34 1) = quernlaw9_there.T1 := by kernel_rfl
theorem quernlaw9_there.bits1 : waitsOk quernlaw9_there.T1.2 quernlaw9_there.B1 = true := by kernel_rfl
set_option maxHeartbeats 8000000 in
set_option maxRecDepth 100000 in
theorem quernlaw9_there.calls (k : Nat) (a0_0 : ByteArray) (A0_1 : Option Addr) (c0_1 : Nat) (l0_1 : List Int) (a0_2 : Int) (A0_3 : Option Addr) (c0_3 : Nat) (l0_3 : List (S42)) (A0_4 : Option Addr) (c0_4 : Nat) (l0_4 : List (S46)) (A1 : Option Addr) (c1 : Nat) (l1 : List (S67)) (a2 : Int) (a3 : Int) (r : Bool) (w : World) (hr0_1 : Kd.C (Kd.int .i64) w A0_1 l0_1.length l0_1) (hc0_1 : l0_1.length ≤ c0_1) (hr0_3 : Kd.C k42 w A0_3 l0_3.length l0_3) (hc0_3 : l0_3.length ≤ c0_3) (hr0_4 : Kd.C k46 w A0_4 l0_4.length l0_4) (hc0_4 : l0_4.length ≤ c0_4) (hr1 : Kd.C k67 w A1 l1.length l1) (hc1 : l1.length ≤ c1) (h : quernlaw9_there.f k a0_0 l0_1 a0_2 l0_3 l0_4 l1 a2 a3 = some r) :
  Calls Try.prog 34 #[.agg #[.string a0_0, .slice A0_1 l0_1.length c0_1, .int .i64 a0_2, .slice A0_3 l0_3.length c0_3, .slice A0_4 l0_4.length c0_4], .slice A1 l1.length c1, .int .i64 a2, .int .i64 a3] w fun e w' => e = .returned (.bool r) ∧ Below w.heap.size w w' := by
 have hu38 := Try.underlying38
 have HR0_1 := Aside0.mk hr0_1
 have HC0_1 := Aside0.mk hc0_1
 clear hr0_1 hc0_1
 have HR0_3 := Aside0.mk hr0_3
 have HC0_3 := Aside0.mk hc0_3
 clear hr0_3 hc0_3
 have HR0_4 := Aside0.mk hr0_4
 have HC0_4 := Aside0.mk hc0_4
 clear hr0_4 hc0_4
 have HR1 := Aside0.mk hr1
 have HC1 := Aside0.mk hc1
 clear hr1 hc1
 have HB := Aside0.mk (Below.refl w.heap.size w)
 have H : (if 0 ≤ a2 then (if a2 < (l1.length : Int) then (if ((rd_T67 l1 a2).f0) < 0 then (some true) else ((quernlaw9_met.f k a0_0 l0_1 a0_2 l0_3 l0_4 a3 ((rd_T67 l1 a2).f0)).bind fun t533 => (some (!t533)))) else (none)) else (none)) = some r := h
 clear h
 by_cases c5 : 0 ≤ a2
 ·rw [if_pos c5] at H
  have c5b0 : decide (0 ≤ a2) = true := decide_eq_true c5
  clear c5
  by_cases c6 : a2 < (l1.length : Int)
  ·rw [if_pos c6] at H
   have c6b0 : decide (a2 < (l1.length : Int)) = true := decide_eq_true c6
   clear c6
   by_cases c7 : ((rd_T67 l1 a2).f0) < 0
   ·rw [if_pos c7] at H
    have c7b0 : decide (((rd_T67 l1 a2).f0) < 0) = true := decide_eq_true c7
    clear c7
    obtain rfl := Option.some.inj H
    go_enter Try.func34, Try.ntmps34
    try go_wp2_with (first | ((with_reducible refine gate_dst (N := 4) rfl ?_); refine box_event ?hg (N := 4) ?hd (cs := #[.string a0_0, .slice A0_1 l0_1.length c0_1, .int .i64 a0_2, .slice A0_3 l0_3.length c0_3, .slice A0_4 l0_4.length c0_4]) (t := 38) ?hr ?_; (case hd => rfl); (case hg => rfl); (case hr => first | (go_simp; done) | (go_simp; rfl)); intro gb530 hg w8 hbox hb; have n0_ := Aside0.mk (below_step (by repeat (first | (with_reducible first | exact HB.out | apply below_alloc | apply pw_below_drewN | apply below_drew1) | exact HB.out)) hb); have n1_ := Aside0.mk (hbox); have n2_ := Aside0.mk ((by rw [hg]; exact (below_size (by repeat (first | (with_reducible first | exact HB.out | apply below_alloc | apply pw_below_drewN | apply below_drew1) | exact HB.out))) : w.heap.size ≤ gb530)); have n3_ := Aside0.mk ((by rw [hg]; exact (below_size (by repeat (first | (with_reducible first | exact HB.out | apply below_alloc | apply pw_below_drewN | apply below_drew1) | exact HB.out))) : w.heap.size ≤ gb530)); clear HB; have HB := n0_; have BK530 := n1_; have GW530 := n2_; have GE530 := n3_; clear n0_ n1_ n2_ n3_; clear hb hbox hg))
    have n0_ := Aside0.mk (blk_drew BK530.out)
    have n1_ := Aside0.mk (below_drew1 HB.out)
    clear BK530
    clear HB
    have BK530 := n0_
    have HB := n1_
    clear n0_ n1_
    have p531 : 0 ≤ (a2 : Int) := of_decide_eq_true (by first | (with_reducible assumption) | assumption)
    have q531 : a2 < (l1.length : Int) := of_decide_eq_true (by first | (with_reducible assumption) | assumption)
    obtain ⟨ad531, e531, hx531_0, hx531_1⟩ := at_T67 HR1.out a2 p531 q531
    have hw531_1 := hx531_1
    have hw531_0 := hx531_0
    cases e531
    replace hx531_0 := cellA HB hx531_0
    replace hx531_1 := cellA HB hx531_1
    replace p531 := eq_true p531
    replace q531 := eq_true q531
    refine start_ (n := 18) (S := fun w' => w'.cell? (ad531.add ((a2).toNat * 2)) = some (.int .i64 ((rd_T67 l1 a2).f0)) ∧ w'.cell? ⟨(ad531.add ((a2).toNat * 2)).block, (ad531.add ((a2).toNat * 2)).off + 1, none⟩ = some (.int .i64 ((rd_T67 l1 a2).f1))) (ds := []) (bl 0 18) (by kernel_rfl) rfl rfl ⟨(cellA HB hw531_0), (cellA HB hw531_1)⟩ (fun hHeld => ?_); refine with_tabW quernlaw9_there.tab1 quernlaw9_there.bits1 (fun HT_ HW_ => ?_)
    generalize w8.drew = w9 at BK530 HB hx531_0 hx531_1 hHeld ⊢
    refine pure_ (i := 0) (N := some 9) (v := ?_) (a' := ?_) (bl 1 18) rfl rfl (any_of HT_.out (by kernel_rfl)) (fun _ _ _ h => h) (Or.inl ⟨by rfl, ?_⟩) ?_ ?_
    rotate_left
    ·intro w'
     go_simp
     with_reducible rfl
    rotate_left
    ·simp only [Act.put, List.setIfInBounds_toArray, List.set_cons_zero, List.set_cons_succ, i64_w, i32_w]
     rfl
    refine pure_ (i := 1) (N := some 10) (v := ?_) (a' := ?_) (bl 2 18) rfl rfl (any_of HT_.out (by kernel_rfl)) (fun _ _ _ h => h) (Or.inl ⟨by rfl, ?_⟩) ?_ ?_
    rotate_left
    ·intro w'
     go_simp
     with_reducible rfl
    rotate_left
    ·simp only [Act.put, List.setIfInBounds_toArray, List.set_cons_zero, List.set_cons_succ, i64_w, i32_w]
     rfl
    refine pure_ (i := 2) (N := some 11) (v := ?_) (a' := ?_) (bl 3 18) rfl rfl (any_of HT_.out (by kernel_rfl)) (fun _ _ _ h => h) (Or.inl ⟨by rfl, ?_⟩) ?_ ?_
    rotate_left
    ·intro w'
     go_simp
     with_reducible rfl
    rotate_left
    ·simp only [Act.put, List.setIfInBounds_toArray, List.set_cons_zero, List.set_cons_succ, i64_w, i32_w]
     rfl
    refine pure_ (i := 3) (N := some 12) (v := ?_) (a' := ?_) (bl 4 18) rfl rfl (any_of HT_.out (by kernel_rfl)) (fun _ _ _ h => h) (Or.inl ⟨by rfl, ?_⟩) ?_ ?_
    rotate_left
    ·intro w'
     go_simp
     with_reducible rfl
    rotate_left
    ·simp only [Act.put, List.setIfInBounds_toArray, List.set_cons_zero, List.set_cons_succ, i64_w, i32_w]
     rfl
    refine take_ (i := 4) (N := some 13) (v := ?_) (a' := ?_) (bl 5 18) rfl rfl (take_ofW HT_.out HW_.out (by kernel_rfl)) (fun _ _ _ h => h) (Or.inl ⟨by rfl, ?_⟩) hHeld ?_ ?_
    rotate_left
    ·rintro w' ⟨s0, s1⟩
     go_simp
     with_reducible rfl
    rotate_left
    ·simp only [Act.put, List.setIfInBounds_toArray, List.set_cons_zero, List.set_cons_succ, i64_w, i32_w]
     rfl
    refine pure_ (i := 5) (N := some 14) (v := ?_) (a' := ?_) (bl 6 18) rfl rfl (any_of HT_.out (by kernel_rfl)) (fun _ _ _ h => h) (Or.inl ⟨by rfl, ?_⟩) ?_ ?_
    rotate_left
    ·intro w'
     go_simp
     with_reducible rfl
    rotate_left
    ·simp only [Act.put, List.setIfInBounds_toArray, List.set_cons_zero, List.set_cons_succ, i64_w, i32_w]
     rfl
    refine pure_ (i := 6) (N := some 15) (v := ?_) (a' := ?_) (bl 7 18) rfl rfl (any_of HT_.out (by kernel_rfl)) (fun _ _ _ h => h) (Or.inl ⟨by rfl, ?_⟩) ?_ ?_
    rotate_left
    ·intro w'
     go_simp
     with_reducible rfl
    rotate_left
    ·simp only [Act.put, List.setIfInBounds_toArray, List.set_cons_zero, List.set_cons_succ, i64_w, i32_w]
     rfl
    refine pure_ (i := 7) (N := some 16) (v := undef) (a' := ?_) (bl 8 18) rfl rfl (any_of HT_.out (by kernel_rfl)) (fun _ _ _ h => h) (Or.inr ⟨by rfl, rfl⟩) ?_ ?_
    rotate_left
    ·simp only [Act.put, List.setIfInBounds_toArray, List.set_cons_zero, List.set_cons_succ, i64_w, i32_w]
     rfl
    refine pure_ (i := 8) (N := some 17) (v := undef) (a' := ?_) (bl 9 18) rfl rfl (any_of HT_.out (by kernel_rfl)) (fun _ _ _ h => h) (Or.inr ⟨by rfl, rfl⟩) ?_ ?_
    rotate_left
    ·simp only [Act.put, List.setIfInBounds_toArray, List.set_cons_zero, List.set_cons_succ, i64_w, i32_w]
     rfl
    refine pure_ (i := 9) (N := some 18) (v := undef) (a' := ?_) (bl 10 18) rfl rfl (any_of HT_.out (by kernel_rfl)) (fun _ _ _ h => h) (Or.inr ⟨by rfl, rfl⟩) ?_ ?_
    rotate_left
    ·simp only [Act.put, List.setIfInBounds_toArray, List.set_cons_zero, List.set_cons_succ, i64_w, i32_w]
     rfl
    refine pure_ (i := 10) (N := some 19) (v := undef) (a' := ?_) (bl 11 18) rfl rfl (any_of HT_.out (by kernel_rfl)) (fun _ _ _ h => h) (Or.inr ⟨by rfl, rfl⟩) ?_ ?_
    rotate_left
    ·simp only [Act.put, List.setIfInBounds_toArray, List.set_cons_zero, List.set_cons_succ, i64_w, i32_w]
     rfl
    refine pure_ (i := 11) (N := some 20) (v := undef) (a' := ?_) (bl 12 18) rfl rfl (any_of HT_.out (by kernel_rfl)) (fun _ _ _ h => h) (Or.inr ⟨by rfl, rfl⟩) ?_ ?_
    rotate_left
    ·simp only [Act.put, List.setIfInBounds_toArray, List.set_cons_zero, List.set_cons_succ, i64_w, i32_w]
     rfl
    refine pure_ (i := 12) (N := some 21) (v := undef) (a' := ?_) (bl 13 18) rfl rfl (any_of HT_.out (by kernel_rfl)) (fun _ _ _ h => h) (Or.inr ⟨by rfl, rfl⟩) ?_ ?_
    rotate_left
    ·simp only [Act.put, List.setIfInBounds_toArray, List.set_cons_zero, List.set_cons_succ, i64_w, i32_w]
     rfl
    refine pure_ (i := 13) (N := some 22) (v := undef) (a' := ?_) (bl 14 18) rfl rfl (any_of HT_.out (by kernel_rfl)) (fun _ _ _ h => h) (Or.inr ⟨by rfl, rfl⟩) ?_ ?_
    rotate_left
    ·simp only [Act.put, List.setIfInBounds_toArray, List.set_cons_zero, List.set_cons_succ, i64_w, i32_w]
     rfl
    refine pure_ (i := 14) (N := some 23) (v := undef) (a' := ?_) (bl 15 18) rfl rfl (any_of HT_.out (by kernel_rfl)) (fun _ _ _ h => h) (Or.inr ⟨by rfl, rfl⟩) ?_ ?_
    rotate_left
    ·simp only [Act.put, List.setIfInBounds_toArray, List.set_cons_zero, List.set_cons_succ, i64_w, i32_w]
     rfl
    refine pure_ (i := 15) (N := some 24) (v := undef) (a' := ?_) (bl 16 18) rfl rfl (any_of HT_.out (by kernel_rfl)) (fun _ _ _ h => h) (Or.inr ⟨by rfl, rfl⟩) ?_ ?_
    rotate_left
    ·simp only [Act.put, List.setIfInBounds_toArray, List.set_cons_zero, List.set_cons_succ, i64_w, i32_w]
     rfl
    refine pure_ (i := 16) (N := some 25) (v := ?_) (a' := ?_) (bl 17 18) rfl rfl (any_of HT_.out (by kernel_rfl)) (fun _ _ _ h => h) (Or.inl ⟨by rfl, ?_⟩) ?_ ?_
    rotate_left
    ·intro w'
     go_simp
     with_reducible rfl
    rotate_left
    ·simp only [Act.put, List.setIfInBounds_toArray, List.set_cons_zero, List.set_cons_succ, i64_w, i32_w]
     rfl
    refine pure_ (i := 17) (N := some 8) (v := ?_) (a' := ?_) (bl 18 18) rfl rfl (any_of HT_.out (by kernel_rfl)) (fun _ _ _ h => h) (Or.inl ⟨by rfl, ?_⟩) ?_ ?_
    rotate_left
    ·intro w'
     go_simp
     with_reducible rfl
    rotate_left
    ·simp only [Act.put, List.setIfInBounds_toArray, List.set_cons_zero, List.set_cons_succ, i64_w, i32_w]
     rfl
    refine done_ (done_of HT_.out (by kernel_rfl)) ?_
    try go_wp2
    go_ret
    exact ⟨by first | rfl | (simp [errW_none, errW_some] <;> rfl) | (simp [*, errW_none, errW_some] <;> rfl), by repeat (first | (with_reducible first | exact HB.out | apply below_alloc | apply pw_below_drewN | apply below_drew1 | refine below_set ?_ GE530.out) | exact HB.out)⟩
   ·rw [if_neg c7] at H
    have c7b0 : decide (((rd_T67 l1 a2).f0) < 0) = false := decide_eq_false c7
    clear c7
    replace H := Option.bind_eq_some_iff.mp H
    obtain ⟨t533, A100, H⟩ := H
    replace H : (some (!t533)) = some r := H
    have A10 := Aside0.mk A100
    clear A100
    obtain rfl := Option.some.inj H
    go_enter Try.func34, Try.ntmps34
    try go_wp2_with (first | ((with_reducible refine gate_dst (N := 4) rfl ?_); refine box_event ?hg (N := 4) ?hd (cs := #[.string a0_0, .slice A0_1 l0_1.length c0_1, .int .i64 a0_2, .slice A0_3 l0_3.length c0_3, .slice A0_4 l0_4.length c0_4]) (t := 38) ?hr ?_; (case hd => rfl); (case hg => rfl); (case hr => first | (go_simp; done) | (go_simp; rfl)); intro gb530 hg w11 hbox hb; have n0_ := Aside0.mk (below_step (by repeat (first | (with_reducible first | exact HB.out | apply below_alloc | apply pw_below_drewN | apply below_drew1) | exact HB.out)) hb); have n1_ := Aside0.mk (hbox); have n2_ := Aside0.mk ((by rw [hg]; exact (below_size (by repeat (first | (with_reducible first | exact HB.out | apply below_alloc | apply pw_below_drewN | apply below_drew1) | exact HB.out))) : w.heap.size ≤ gb530)); have n3_ := Aside0.mk ((by rw [hg]; exact (below_size (by repeat (first | (with_reducible first | exact HB.out | apply below_alloc | apply pw_below_drewN | apply below_drew1) | exact HB.out))) : w.heap.size ≤ gb530)); clear HB; have HB := n0_; have BK530 := n1_; have GW530 := n2_; have GE530 := n3_; clear n0_ n1_ n2_ n3_; clear hb hbox hg))
    have n0_ := Aside0.mk (blk_drew BK530.out)
    have n1_ := Aside0.mk (below_drew1 HB.out)
    clear BK530
    clear HB
    have BK530 := n0_
    have HB := n1_
    clear n0_ n1_
    have p531 : 0 ≤ (a2 : Int) := of_decide_eq_true (by first | (with_reducible assumption) | assumption)
    have q531 : a2 < (l1.length : Int) := of_decide_eq_true (by first | (with_reducible assumption) | assumption)
    obtain ⟨ad531, e531, hx531_0, hx531_1⟩ := at_T67 HR1.out a2 p531 q531
    have hw531_1 := hx531_1
    have hw531_0 := hx531_0
    cases e531
    replace hx531_0 := cellA HB hx531_0
    replace hx531_1 := cellA HB hx531_1
    replace p531 := eq_true p531
    replace q531 := eq_true q531
    have p532 : 0 ≤ (a2 : Int) := of_decide_eq_true (by first | (with_reducible assumption) | assumption)
    have q532 : a2 < (l1.length : Int) := of_decide_eq_true (by first | (with_reducible assumption) | assumption)
    obtain ⟨ad532, e532, hx532_0, hx532_1⟩ := at_T67 HR1.out a2 p532 q532
    have hw532_1 := hx532_1
    have hw532_0 := hx532_0
    obtain rfl : ad531 = ad532 := (by injection e532)
    replace hx532_0 := cellA HB hx532_0
    replace hx532_1 := cellA HB hx532_1
    replace p532 := eq_true p532
    replace q532 := eq_true q532
    refine start_ (n := 18) (S := fun w' => w'.cell? ⟨gb530, 0, none⟩ = some (.string a0_0) ∧ w'.cell? ⟨gb530, 1, none⟩ = some (.slice A0_1 l0_1.length c0_1) ∧ w'.cell? ⟨gb530, 2, none⟩ = some (.int .i64 a0_2) ∧ w'.cell? ⟨gb530, 3, none⟩ = some (.slice A0_3 l0_3.length c0_3) ∧ w'.cell? ⟨gb530, 4, none⟩ = some (.slice A0_4 l0_4.length c0_4) ∧ w'.cell? (ad531.add ((a2).toNat * 2)) = some (.int .i64 ((rd_T67 l1 a2).f0)) ∧ w'.cell? ⟨(ad531.add ((a2).toNat * 2)).block, (ad531.add ((a2).toNat * 2)).off + 1, none⟩ = some (.int .i64 ((rd_T67 l1 a2).f1)) ∧ w'.cell? (ad531.add ((a2).toNat * 2)) = some (.int .i64 ((rd_T67 l1 a2).f0)) ∧ w'.cell? ⟨(ad531.add ((a2).toNat * 2)).block, (ad531.add ((a2).toNat * 2)).off + 1, none⟩ = some (.int .i64 ((rd_T67 l1 a2).f1))) (ds := []) (bl 0 18) (by kernel_rfl) rfl rfl ⟨(blk_cell BK530.out 0).trans rfl, (blk_cell BK530.out 1).trans rfl, (blk_cell BK530.out 2).trans rfl, (blk_cell BK530.out 3).trans rfl, (blk_cell BK530.out 4).trans rfl, (cellA HB hw531_0), (cellA HB hw531_1), (cellA HB hw532_0), (cellA HB hw532_1)⟩ (fun hHeld => ?_); refine with_tabW quernlaw9_there.tab1 quernlaw9_there.bits1 (fun HT_ HW_ => ?_)
    generalize w11.drew = w12 at BK530 HB hx531_0 hx531_1 hx532_0 hx532_1 hHeld ⊢
    refine pure_ (i := 0) (N := some 9) (v := ?_) (a' := ?_) (bl 1 18) rfl rfl (any_of HT_.out (by kernel_rfl)) (fun _ _ _ h => h) (Or.inl ⟨by rfl, ?_⟩) ?_ ?_
    rotate_left
    ·intro w'
     go_simp
     with_reducible rfl
    rotate_left
    ·simp only [Act.put, List.setIfInBounds_toArray, List.set_cons_zero, List.set_cons_succ, i64_w, i32_w]
     rfl
    refine pure_ (i := 1) (N := some 10) (v := ?_) (a' := ?_) (bl 2 18) rfl rfl (any_of HT_.out (by kernel_rfl)) (fun _ _ _ h => h) (Or.inl ⟨by rfl, ?_⟩) ?_ ?_
    rotate_left
    ·intro w'
     go_simp
     with_reducible rfl
    rotate_left
    ·simp only [Act.put, List.setIfInBounds_toArray, List.set_cons_zero, List.set_cons_succ, i64_w, i32_w]
     rfl
    refine pure_ (i := 2) (N := some 11) (v := ?_) (a' := ?_) (bl 3 18) rfl rfl (any_of HT_.out (by kernel_rfl)) (fun _ _ _ h => h) (Or.inl ⟨by rfl, ?_⟩) ?_ ?_
    rotate_left
    ·intro w'
     go_simp
     with_reducible rfl
    rotate_left
    ·simp only [Act.put, List.setIfInBounds_toArray, List.set_cons_zero, List.set_cons_succ, i64_w, i32_w]
     rfl
    refine pure_ (i := 3) (N := some 12) (v := ?_) (a' := ?_) (bl 4 18) rfl rfl (any_of HT_.out (by kernel_rfl)) (fun _ _ _ h => h) (Or.inl ⟨by rfl, ?_⟩) ?_ ?_
    rotate_left
    ·intro w'
     go_simp
     with_reducible rfl
    rotate_left
    ·simp only [Act.put, List.setIfInBounds_toArray, List.set_cons_zero, List.set_cons_succ, i64_w, i32_w]
     rfl
    refine take_ (i := 4) (N := some 13) (v := ?_) (a' := ?_) (bl 5 18) rfl rfl (take_ofW HT_.out HW_.out (by kernel_rfl)) (fun _ _ _ h => h) (Or.inl ⟨by rfl, ?_⟩) hHeld ?_ ?_
    rotate_left
    ·rintro w' ⟨s0, s1, s2, s3, s4, s5, s6, s7, s8⟩
     go_simp
     with_reducible rfl
    rotate_left
    ·simp only [Act.put, List.setIfInBounds_toArray, List.set_cons_zero, List.set_cons_succ, i64_w, i32_w]
     rfl
    refine pure_ (i := 5) (N := some 14) (v := ?_) (a' := ?_) (bl 6 18) rfl rfl (any_of HT_.out (by kernel_rfl)) (fun _ _ _ h => h) (Or.inl ⟨by rfl, ?_⟩) ?_ ?_
    rotate_left
    ·intro w'
     go_simp
     with_reducible rfl
    rotate_left
    ·simp only [Act.put, List.setIfInBounds_toArray, List.set_cons_zero, List.set_cons_succ, i64_w, i32_w]
     rfl
    refine pure_ (i := 6) (N := some 15) (v := ?_) (a' := ?_) (bl 7 18) rfl rfl (any_of HT_.out (by kernel_rfl)) (fun _ _ _ h => h) (Or.inl ⟨by rfl, ?_⟩) ?_ ?_
    rotate_left
    ·intro w'
     go_simp
     with_reducible rfl
    rotate_left
    ·simp only [Act.put, List.setIfInBounds_toArray, List.set_cons_zero, List.set_cons_succ, i64_w, i32_w]
     rfl
    refine pure_ (i := 8) (N := some 17) (v := ?_) (a' := ?_) #[true, true, true, true, true, true, true, false, true, false, false, false, false, false, false, false, false, false] rfl rfl (any_of HT_.out (by kernel_rfl)) (fun _ _ _ h => h) (Or.inl ⟨by rfl, ?_⟩) ?_ ?_
    rotate_left
    ·intro w'
     go_simp
     with_reducible rfl
    rotate_left
    ·simp only [Act.put, List.setIfInBounds_toArray, List.set_cons_zero, List.set_cons_succ, i64_w, i32_w]
     rfl
    refine pure_ (i := 9) (N := some 18) (v := ?_) (a' := ?_) #[true, true, true, true, true, true, true, false, true, true, false, false, false, false, false, false, false, false] rfl rfl (any_of HT_.out (by kernel_rfl)) (fun _ _ _ h => h) (Or.inl ⟨by rfl, ?_⟩) ?_ ?_
    rotate_left
    ·intro w'
     go_simp
     with_reducible rfl
    rotate_left
    ·simp only [Act.put, List.setIfInBounds_toArray, List.set_cons_zero, List.set_cons_succ, i64_w, i32_w]
     rfl
    refine pure_ (i := 10) (N := some 19) (v := ?_) (a' := ?_) #[true, true, true, true, true, true, true, false, true, true, true, false, false, false, false, false, false, false] rfl rfl (any_of HT_.out (by kernel_rfl)) (fun _ _ _ h => h) (Or.inl ⟨by rfl, ?_⟩) ?_ ?_
    rotate_left
    ·intro w'
     go_simp
     with_reducible rfl
    rotate_left
    ·simp only [Act.put, List.setIfInBounds_toArray, List.set_cons_zero, List.set_cons_succ, i64_w, i32_w]
     rfl
    refine pure_ (i := 11) (N := some 20) (v := ?_) (a' := ?_) #[true, true, true, true, true, true, true, false, true, true, true, true, false, false, false, false, false, false] rfl rfl (any_of HT_.out (by kernel_rfl)) (fun _ _ _ h => h) (Or.inl ⟨by rfl, ?_⟩) ?_ ?_
    rotate_left
    ·intro w'
     go_simp
     with_reducible rfl
    rotate_left
    ·simp only [Act.put, List.setIfInBounds_toArray, List.set_cons_zero, List.set_cons_succ, i64_w, i32_w]
     rfl
    refine pure_ (i := 12) (N := some 21) (v := ?_) (a' := ?_) #[true, true, true, true, true, true, true, false, true, true, true, true, true, false, false, false, false, false] rfl rfl (any_of HT_.out (by kernel_rfl)) (fun _ _ _ h => h) (Or.inl ⟨by rfl, ?_⟩) ?_ ?_
    rotate_left
    ·intro w'
     go_simp
     with_reducible rfl
    rotate_left
    ·simp only [Act.put, List.setIfInBounds_toArray, List.set_cons_zero, List.set_cons_succ, i64_w, i32_w]
     rfl
    refine take_ (i := 7) (N := some 16) (v := ?_) (a' := ?_) (bl 13 18) rfl rfl (take_ofW HT_.out HW_.out (by kernel_rfl)) (fun _ _ _ h => h) (Or.inl ⟨by rfl, ?_⟩) hHeld ?_ ?_
    rotate_left
    ·rintro w' ⟨s0, s1, s2, s3, s4, s5, s6, s7, s8⟩
     go_simp
     with_reducible rfl
    rotate_left
    ·simp only [Act.put, List.setIfInBounds_toArray, List.set_cons_zero, List.set_cons_succ, i64_w, i32_w]
     rfl
    refine take_ (i := 13) (N := some 22) (v := ?_) (a' := ?_) (bl 14 18) rfl rfl (take_ofW HT_.out HW_.out (by kernel_rfl)) (fun _ _ _ h => h) (Or.inl ⟨by rfl, ?_⟩) hHeld ?_ ?_
    rotate_left
    ·rintro w' ⟨s0, s1, s2, s3, s4, s5, s6, s7, s8⟩
     go_simp
     with_reducible rfl
    rotate_left
    ·simp only [Act.put, List.setIfInBounds_toArray, List.set_cons_zero, List.set_cons_succ, i64_w, i32_w]
     rfl
    refine one_ (i := 14) (N := some 23) (bl 15 18) rfl rfl (one_of HT_.out (by kernel_rfl)) (by decide) (fun K hK => ?_)
    refine goes_ Try.func33 (by kernel_rfl) rfl #[.agg #[.string a0_0, .slice A0_1 l0_1.length c0_1, .int .i64 a0_2, .slice A0_3 l0_3.length c0_3, .slice A0_4 l0_4.length c0_4], .int .i64 a3, .int .i64 ((rd_T67 l1 a2).f0)] (by rfl) rfl rfl (by (try simp only [List.map_toArray, List.map_cons, List.map_nil]); first | done | rfl | (simp only [List.length_drop, List.length_take]; rfl)) ?_
    with_reducible refine (quernlaw9_met.calls k a0_0 _ _ l0_1 a0_2 _ _ l0_3 _ _ l0_4 a3 ((rd_T67 l1 a2).f0) t533 _ ?side1 ?side2 ?side3 ?side4 ?side5 ?side6 A10.out).mono ?_
    (case side1 => repeat (first | exact (Kd.C_below HR0_1.out HB.out) | (with_reducible refine Kd.C_alloc ?_ _) | (with_reducible refine Kd.C_drewN ?_ _) | (with_reducible refine Kd.C_drew ?_)))
    (case side2 => exact HC0_1.out)
    (case side3 => repeat (first | exact (Kd.C_below HR0_3.out HB.out) | (with_reducible refine Kd.C_alloc ?_ _) | (with_reducible refine Kd.C_drewN ?_ _) | (with_reducible refine Kd.C_drew ?_)))
    (case side4 => exact HC0_3.out)
    (case side5 => repeat (first | exact (Kd.C_below HR0_4.out HB.out) | (with_reducible refine Kd.C_alloc ?_ _) | (with_reducible refine Kd.C_drewN ?_ _) | (with_reducible refine Kd.C_drew ?_)))
    (case side6 => exact HC0_4.out)
    rintro e w13 ⟨rfl, hb⟩
    refine ⟨_, rfl, ?_⟩
    have n0_ := Aside0.mk (blk_below (g := gb530) (o := .cells #[.string a0_0, .slice A0_1 l0_1.length c0_1, .int .i64 a0_2, .slice A0_3 l0_3.length c0_3, .slice A0_4 l0_4.length c0_4] 38 (0, 0)) (by (with_reducible repeat (first | refine blk_drewN ?_ _ | refine blk_drew ?_ | refine blk_alloc ?_ _)); exact BK530.out) hb)
    have n1_ := Aside0.mk (below_step (by repeat (first | (with_reducible first | exact HB.out | apply below_alloc | apply pw_below_drewN | apply below_drew1 | refine below_set ?_ GE530.out) | exact HB.out)) hb)
    clear BK530
    clear HB
    have BK530 := n0_
    have HB := n1_
    clear n0_ n1_
    (try clear hb)
    (try clear hb2)
    (try clear hk)
    (try clear hi)
    refine hK.out _ _ ⟨(blk_cell BK530.out 0).trans rfl, (blk_cell BK530.out 1).trans rfl, (blk_cell BK530.out 2).trans rfl, (blk_cell BK530.out 3).trans rfl, (blk_cell BK530.out 4).trans rfl, (cellA HB hw531_0), (cellA HB hw531_1), (cellA HB hw532_0), (cellA HB hw532_1)⟩ (fun hHeld => ?_)
    clear hK K
    refine norm_ (a' := ?_) ?_ ?_
    rotate_left
    ·show Act.put _ (some 23) _ = _
     simp only [Act.put, List.setIfInBounds_toArray, List.set_cons_zero, List.set_cons_succ, i64_w, i32_w]
     rfl
    refine pure_ (i := 15) (N := some 24) (v := ?_) (a' := ?_) (bl 16 18) rfl rfl (any_of HT_.out (by kernel_rfl)) (fun _ _ _ h => h) (Or.inl ⟨by rfl, ?_⟩) ?_ ?_
    rotate_left
    ·intro w'
     go_simp
     with_reducible rfl
    rotate_left
    ·simp only [Act.put, List.setIfInBounds_toArray, List.set_cons_zero, List.set_cons_succ, i64_w, i32_w]
     rfl
    refine pure_ (i := 16) (N := some 25) (v := ?_) (a' := ?_) (bl 17 18) rfl rfl (any_of HT_.out (by kernel_rfl)) (fun _ _ _ h => h) (Or.inl ⟨by rfl, ?_⟩) ?_ ?_
    rotate_left
    ·intro w'
     go_simp
     with_reducible rfl
    rotate_left
    ·simp only [Act.put, List.setIfInBounds_toArray, List.set_cons_zero, List.set_cons_succ, i64_w, i32_w]
     rfl
    refine pure_ (i := 17) (N := some 8) (v := ?_) (a' := ?_) (bl 18 18) rfl rfl (any_of HT_.out (by kernel_rfl)) (fun _ _ _ h => h) (Or.inl ⟨by rfl, ?_⟩) ?_ ?_
    rotate_left
    ·intro w'
     go_simp
     with_reducible rfl
    rotate_left
    ·simp only [Act.put, List.setIfInBounds_toArray, List.set_cons_zero, List.set_cons_succ, i64_w, i32_w]
     rfl
    refine done_ (done_of HT_.out (by kernel_rfl)) ?_
    try go_wp2
    go_ret
    exact ⟨by first | rfl | (simp [errW_none, errW_some] <;> rfl) | (simp [*, errW_none, errW_some] <;> rfl), by repeat (first | (with_reducible first | exact HB.out | apply below_alloc | apply pw_below_drewN | apply below_drew1 | refine below_set ?_ GE530.out) | exact HB.out)⟩
  ·rw [if_neg c6] at H
   exact absurd H (by simp)
 ·rw [if_neg c5] at H
  exact absurd H (by simp)
end Go.Proofs.Ytgbeliajhccndaa.PP
