/- Lemmas of this claim (PP3). -/
import Derived.Test.YtgbeliajhccndaaRE
import Derived.Test.YtgbeliajhccndaaRD
import Derived.Test.YtgbeliajhccndaaRAC
namespace Go.Proofs.Ytgbeliajhccndaa.PP
open Go.RowKit Go.Proofs.YtgbeliajhccndaaW.PrintWords Go.Proofs.YtgbeliajhccndaaW.PrintLast Go.Proofs.YtgbeliajhccndaaW.PrintMore
attribute [local go_sem] max2_int min2_int max_two min_two max_three min_three max_four min_four   
set_option linter.unusedVariables false
set_option linter.unusedSimpArgs false
mutual
def quernlaw9_small.l0 : Nat → Int → Int → List (S38) → Int → Option (Bool)
 | 0, _, _, _, _ => none
 | k + 1, x3, x4, x178000, x178001 => if x4 < (x178000.length : Int) then (if 0 ≤ x4 then (quernlaw9_small.l1 k (wrap64 (x3 + (wrap64 ((wrap64 ((wrap64 ((((rd_T38 x178000 x4).f0).size : Int) / 65)) + (((rd_T38 x178000 x4).f1).length : Int))) + (wrap64 ((((rd_T38 x178000 x4).f4).length : Int) * (((rd_T38 x178000 x4).f4).length : Int))))))) x4 0 x178000 x178001 ((rd_T38 x178000 x4).f0) ((rd_T38 x178000 x4).f1) ((rd_T38 x178000 x4).f2) ((rd_T38 x178000 x4).f3) ((rd_T38 x178000 x4).f4)) else (none)) else (some (decide ((x178000.length : Int) ≤ 300)))
def quernlaw9_small.j2 : Nat → Int → Int → List (S38) → Int → ByteArray → List Int → Int → List (S42) → List (S46) → Option (Bool)
 | 0, _, _, _, _, _, _, _, _, _ => none
 | k + 1, x3, x4, x178000, x178001, x180000, x180001, x180002, x180003, x180004 => quernlaw9_small.l2 k x3 x4 0 x178000 x178001 x180000 x180001 x180002 x180003 x180004
def quernlaw9_small.l2 : Nat → Int → Int → Int → List (S38) → Int → ByteArray → List Int → Int → List (S42) → List (S46) → Option (Bool)
 | 0, _, _, _, _, _, _, _, _, _, _ => none
 | k + 1, x3, x4, x7, x178000, x178001, x180000, x180001, x180002, x180003, x180004 => if x7 < (x180004.length : Int) then (if x3 ≤ 2000000 then (if 0 ≤ x7 then (quernlaw9_small.l2 k (wrap64 (x3 + (wrap64 ((wrap64 ((wrap64 ((wrap64 (1 + (((rd_T46 x180004 x7).f0).length : Int))) + (((rd_T46 x180004 x7).f1).length : Int))) + (((rd_T46 x180004 x7).f3).length : Int))) + (((rd_T46 x180004 x7).f2.f2).length : Int))))) x4 (wrap64 (x7 + 1)) x178000 x178001 x180000 x180001 x180002 x180003 x180004) else (none)) else (if x3 > 2000000 then (some false) else (quernlaw9_small.l0 k x3 (wrap64 (x4 + 1)) x178000 x178001))) else (if x3 > 2000000 then (some false) else (quernlaw9_small.l0 k x3 (wrap64 (x4 + 1)) x178000 x178001))
def quernlaw9_small.l1 : Nat → Int → Int → Int → List (S38) → Int → ByteArray → List Int → Int → List (S42) → List (S46) → Option (Bool)
 | 0, _, _, _, _, _, _, _, _, _, _ => none
 | k + 1, x3, x4, x6, x178000, x178001, x180000, x180001, x180002, x180003, x180004 => if x6 < (x180003.length : Int) then (if x3 ≤ 2000000 then (if 0 ≤ x6 then (quernlaw9_small.l1 k (wrap64 (x3 + (wrap64 (1 + (((rd_T42 x180003 x6).f3).length : Int))))) x4 (wrap64 (x6 + 1)) x178000 x178001 x180000 x180001 x180002 x180003 x180004) else (none)) else (quernlaw9_small.j2 k x3 x4 x178000 x178001 x180000 x180001 x180002 x180003 x180004)) else (quernlaw9_small.j2 k x3 x4 x178000 x178001 x180000 x180001 x180002 x180003 x180004)
end
def quernlaw9_small.f (k : Nat) (l0_0 : List (S38)) (a0_1 : Int) : Option (Bool) := quernlaw9_small.l0 k 0 0 l0_0 a0_1
theorem quernlaw9_small.mono_l : ∀ k, (∀ y0 y1 y2 y3, LeO (quernlaw9_small.l0 k y0 y1 y2 y3) (quernlaw9_small.l0 (k + 1) y0 y1 y2 y3)) ∧ (∀ y0 y1 y2 y3 y4 y5 y6 y7 y8, LeO (quernlaw9_small.j2 k y0 y1 y2 y3 y4 y5 y6 y7 y8) (quernlaw9_small.j2 (k + 1) y0 y1 y2 y3 y4 y5 y6 y7 y8)) ∧ (∀ y0 y1 y2 y3 y4 y5 y6 y7 y8 y9, LeO (quernlaw9_small.l2 k y0 y1 y2 y3 y4 y5 y6 y7 y8 y9) (quernlaw9_small.l2 (k + 1) y0 y1 y2 y3 y4 y5 y6 y7 y8 y9)) ∧ (∀ y0 y1 y2 y3 y4 y5 y6 y7 y8 y9, LeO (quernlaw9_small.l1 k y0 y1 y2 y3 y4 y5 y6 y7 y8 y9) (quernlaw9_small.l1 (k + 1) y0 y1 y2 y3 y4 y5 y6 y7 y8 y9))
 | 0 => ⟨fun _ _ _ _ r h => by simp [quernlaw9_small.l0] at h, fun _ _ _ _ _ _ _ _ _ r h => by simp [quernlaw9_small.j2] at h, fun _ _ _ _ _ _ _ _ _ _ r h => by simp [quernlaw9_small.l2] at h, fun _ _ _ _ _ _ _ _ _ _ r h => by simp [quernlaw9_small.l1] at h⟩
 | k + 1 => by
  obtain ⟨ih0, ih1, ih2, ih3⟩ := quernlaw9_small.mono_l k
  refine ⟨?_, ?_, ?_, ?_⟩
  ·intro y0 y1 y2 y3
   unfold quernlaw9_small.l0
   repeat' first
   | (with_reducible exact ih0 _ _ _ _)
   | (with_reducible exact ih1 _ _ _ _ _ _ _ _ _)
   | (with_reducible exact ih2 _ _ _ _ _ _ _ _ _ _)
   | (with_reducible exact ih3 _ _ _ _ _ _ _ _ _ _)
   | (with_reducible exact LeO.refl _)
   | (with_reducible exact LeO.none _)
   | (with_reducible refine LeO.ite ?_ ?_)
   | (with_reducible refine LeO.bind ?_ (fun _ => ?_))
   | exact ih0 _ _ _ _
   | exact ih1 _ _ _ _ _ _ _ _ _
   | exact ih2 _ _ _ _ _ _ _ _ _ _
   | exact ih3 _ _ _ _ _ _ _ _ _ _
   | exact LeO.none _
   | refine LeO.ite ?_ ?_
   | refine LeO.bind ?_ (fun _ => ?_)
  ·intro y0 y1 y2 y3 y4 y5 y6 y7 y8
   unfold quernlaw9_small.j2
   repeat' first
   | (with_reducible exact ih0 _ _ _ _)
   | (with_reducible exact ih1 _ _ _ _ _ _ _ _ _)
   | (with_reducible exact ih2 _ _ _ _ _ _ _ _ _ _)
   | (with_reducible exact ih3 _ _ _ _ _ _ _ _ _ _)
   | (with_reducible exact LeO.refl _)
   | (with_reducible exact LeO.none _)
   | (with_reducible refine LeO.ite ?_ ?_)
   | (with_reducible refine LeO.bind ?_ (fun _ => ?_))
   | exact ih0 _ _ _ _
   | exact ih1 _ _ _ _ _ _ _ _ _
   | exact ih2 _ _ _ _ _ _ _ _ _ _
   | exact ih3 _ _ _ _ _ _ _ _ _ _
   | exact LeO.none _
   | refine LeO.ite ?_ ?_
   | refine LeO.bind ?_ (fun _ => ?_)
  ·intro y0 y1 y2 y3 y4 y5 y6 y7 y8 y9
   unfold quernlaw9_small.l2
   repeat' first
   | (with_reducible exact ih0 _ _ _ _)
   | (with_reducible exact ih1 _ _ _ _ _ _ _ _ _)
   | (with_reducible exact ih2 _ _ _ _ _ _ _ _ _ _)
   | (with_reducible exact ih3 _ _ _ _ _ _ _ _ _ _)
   | (with_reducible exact LeO.refl _)
   | (with_reducible exact LeO.none _)
   | (with_reducible refine LeO.ite ?_ ?_)
   | (with_reducible refine LeO.bind ?_ (fun _ => ?_))
   | exact ih0 _ _ _ _
   | exact ih1 _ _ _ _ _ _ _ _ _
   | exact ih2 _ _ _ _ _ _ _ _ _ _
   | exact ih3 _ _ _ _ _ _ _ _ _ _
   | exact LeO.none _
   | refine LeO.ite ?_ ?_
   | refine LeO.bind ?_ (fun _ => ?_)
  ·intro y0 y1 y2 y3 y4 y5 y6 y7 y8 y9
   unfold quernlaw9_small.l1
   repeat' first
   | (with_reducible exact ih0 _ _ _ _)
   | (with_reducible exact ih1 _ _ _ _ _ _ _ _ _)
   | (with_reducible exact ih2 _ _ _ _ _ _ _ _ _ _)
   | (with_reducible exact ih3 _ _ _ _ _ _ _ _ _ _)
   | (with_reducible exact LeO.refl _)
   | (with_reducible exact LeO.none _)
   | (with_reducible refine LeO.ite ?_ ?_)
   | (with_reducible refine LeO.bind ?_ (fun _ => ?_))
   | exact ih0 _ _ _ _
   | exact ih1 _ _ _ _ _ _ _ _ _
   | exact ih2 _ _ _ _ _ _ _ _ _ _
   | exact ih3 _ _ _ _ _ _ _ _ _ _
   | exact LeO.none _
   | refine LeO.ite ?_ ?_
   | refine LeO.bind ?_ (fun _ => ?_)
theorem quernlaw9_small.mono : ∀ a0 a1 k, LeO (quernlaw9_small.f k a0 a1) (quernlaw9_small.f (k + 1) a0 a1) := by
 intro a0 a1 k
 obtain ⟨ih0, ih1, ih2, ih3⟩ := quernlaw9_small.mono_l k
 unfold quernlaw9_small.f
 repeat' first
   | (with_reducible exact ih0 _ _ _ _)
   | (with_reducible exact ih1 _ _ _ _ _ _ _ _ _)
   | (with_reducible exact ih2 _ _ _ _ _ _ _ _ _ _)
   | (with_reducible exact ih3 _ _ _ _ _ _ _ _ _ _)
   | (with_reducible exact LeO.refl _)
   | (with_reducible exact LeO.none _)
   | (with_reducible refine LeO.ite ?_ ?_)
   | (with_reducible refine LeO.bind ?_ (fun _ => ?_))
   | exact ih0 _ _ _ _
   | exact ih1 _ _ _ _ _ _ _ _ _
   | exact ih2 _ _ _ _ _ _ _ _ _ _
   | exact ih3 _ _ _ _ _ _ _ _ _ _
   | exact LeO.none _
   | refine LeO.ite ?_ ?_
   | refine LeO.bind ?_ (fun _ => ?_)
set_option maxHeartbeats 8000000 in
set_option maxRecDepth 100000 in
theorem quernlaw9_small.calls (k : Nat) (A0_0 : Option Addr) (c0_0 : Nat) (l0_0 : List (S38)) (a0_1 : Int) (r : Bool) (w : World) (hr0_0 : Kd.C k38 w A0_0 l0_0.length l0_0) (hc0_0 : l0_0.length ≤ c0_0) (h : quernlaw9_small.f k l0_0 a0_1 = some r) :
  Calls Try.prog 10 #[.agg #[.slice A0_0 l0_0.length c0_0, .int .i64 a0_1]] w fun e w' => e = .returned (.bool r) ∧ Below w.heap.size w w' := by
 have hu24 := Try.underlying24
 have hu38 := Try.underlying38
 have hu46 := Try.underlying46
 have HR0_0 := Aside0.mk hr0_0
 have HC0_0 := Aside0.mk hc0_0
 clear hr0_0 hc0_0
 have HB := Aside0.mk (Below.refl w.heap.size w)
 have H : (quernlaw9_small.l0 k 0 0 l0_0 a0_1) = some r := h
 clear h
 have H' := Aside0.mk H
 clear H
 go_enter Try.func10, Try.ntmps10
 go_wp2_with (first | ((with_reducible refine gate_dst (N := 1) rfl ?_); refine box_event ?hg (N := 1) ?hd (cs := #[.slice A0_0 l0_0.length c0_0, .int .i64 a0_1]) (t := 24) ?hr ?_; (case hd => rfl); (case hg => rfl); (case hr => first | (go_simp; done) | (go_simp; rfl)); intro gb177 hg w2 hbox hb; have n0_ := Aside0.mk (below_step (by repeat (first | (with_reducible first | exact HB.out | apply below_alloc | apply pw_below_drewN | apply below_drew1) | exact HB.out)) hb); have n1_ := Aside0.mk (hbox); have n2_ := Aside0.mk ((by rw [hg]; exact (below_size (by repeat (first | (with_reducible first | exact HB.out | apply below_alloc | apply pw_below_drewN | apply below_drew1) | exact HB.out))) : w.heap.size ≤ gb177)); have n3_ := Aside0.mk ((by rw [hg]; exact (below_size (by repeat (first | (with_reducible first | exact HB.out | apply below_alloc | apply pw_below_drewN | apply below_drew1) | exact HB.out))) : w.heap.size ≤ gb177)); clear HB; have HB := n0_; have BK177 := n1_; have GW177 := n2_; have GE177 := n3_; clear n0_ n1_ n2_ n3_; clear hb hbox hg))
 go_loopg [3, 4] k (fun kq v3 v4 w' => ∃ (x3_1 : Int) (x4_1 : Int), v3 = .int .i64 x3_1 ∧ v4 = .int .i64 x4_1 ∧ Aside0 (quernlaw9_small.l0 kq x3_1 x4_1 l0_0 a0_1 = some r) ∧ Aside0 (kq ≤ k) ∧ Aside0 (w'.heap[gb177]? = some (.cells #[(.slice A0_0 l0_0.length c0_0), .int .i64 a0_1] 24 (0, 0))) ∧ Aside0 (Below w.heap.size w w'))
 case atStart => exact ⟨(0), (0), (by first | rfl | (simp; done) | (simp [*]; done)), (by first | rfl | (simp; done) | (simp [*]; done)), H', ⟨Nat.le_refl _⟩, ⟨by (with_reducible repeat (first | refine blk_drewN ?_ _ | refine blk_drew ?_ | refine blk_alloc ?_ _)); exact BK177.out⟩, ⟨by repeat (first | (with_reducible first | exact HB.out | apply below_alloc | apply pw_below_drewN | apply below_drew1 | refine below_set ?_ GE177.out) | exact HB.out)⟩⟩
 case round =>
  clear H'
  try clear c1
  try clear p2
  obtain ⟨x3_1, x4_1, rfl, rfl, HA, HK1, BK177, HB⟩ := hrel
  cases gk with
  | zero => exact absurd HA.out (by simp [quernlaw9_small.l0])
  | succ k1 =>
   have H := HA.out
   clear HA
   simp only [quernlaw9_small.l0] at H
   by_cases c3 : x4_1 < (l0_0.length : Int)
   ·rw [if_pos c3] at H
    have c3b0 : decide (x4_1 < (l0_0.length : Int)) = true := decide_eq_true c3
    clear c3
    by_cases c4 : 0 ≤ x4_1
    ·rw [if_pos c4] at H
     have c4b0 : decide (0 ≤ x4_1) = true := decide_eq_true c4
     clear c4
     have HC5 := Aside0.mk H
     clear H
     have hcz6_0 : wr.cell? ⟨gb177, 0, none⟩ = some (.slice A0_0 l0_0.length c0_0) := (blk_cell BK177.out 0).trans rfl
     have hcz6_1 : wr.cell? ⟨gb177, 1, none⟩ = some (.int .i64 a0_1) := (blk_cell BK177.out 1).trans rfl
     have hfz6_0 := blk_frozen BK177.out 0
     have hfz6_1 := blk_frozen BK177.out 1
     have p178 : 0 ≤ (x4_1 : Int) := of_decide_eq_true (by first | (with_reducible assumption) | assumption)
     have q178 : x4_1 < (l0_0.length : Int) := of_decide_eq_true (by first | (with_reducible assumption) | assumption)
     obtain ⟨ad178, A178_1, c178_1, A178_3, c178_3, A178_4, c178_4, e178, hx178_0, hx178_1, hx178_2, hx178_3, hx178_4, hl178_1, hi178_1, hl178_3, hi178_3, hl178_4, hi178_4⟩ := at_T38 HR0_0.out x4_1 p178 q178
     cases e178
     replace hx178_0 := cellA HB hx178_0
     replace hx178_1 := cellA HB hx178_1
     replace hx178_2 := cellA HB hx178_2
     replace hx178_3 := cellA HB hx178_3
     replace hx178_4 := cellA HB hx178_4
     have HR178_1 := Aside0.mk hi178_1
     have HC178_1 := Aside0.mk hl178_1
     clear hi178_1 hl178_1
     have HR178_3 := Aside0.mk hi178_3
     have HC178_3 := Aside0.mk hl178_3
     clear hi178_3 hl178_3
     have HR178_4 := Aside0.mk hi178_4
     have HC178_4 := Aside0.mk hl178_4
     clear hi178_4 hl178_4
     replace p178 := eq_true p178
     replace q178 := eq_true q178
     go_upto_block 2 with (first | ((with_reducible refine gate_dst (N := 5) rfl ?_); refine box_event ?hg (N := 5) ?hd (cs := #[.string (⟨#[]⟩ : ByteArray), .slice none 0 0, .int .i64 0, .slice none 0 0, .slice none 0 0]) (t := 38) ?hr ?_; (case hd => rfl); (case hg => rfl); (case hr => first | (go_simp; done) | (go_simp; rfl)); intro gb179 hg w7 hbox hb; have n0_ := Aside0.mk (blk_below (g := gb177) (o := .cells #[.slice (some ad178) l0_0.length c0_0, .int .i64 a0_1] 24 (0, 0)) (by (with_reducible repeat (first | refine blk_drewN ?_ _ | refine blk_drew ?_ | refine blk_alloc ?_ _)); exact BK177.out) hb); have n1_ := Aside0.mk (below_step (by repeat (first | (with_reducible first | exact HB.out | apply below_alloc | apply pw_below_drewN | apply below_drew1 | refine below_set ?_ GE177.out) | exact HB.out)) hb); have n2_ := Aside0.mk (hbox); have n3_ := Aside0.mk ((by rw [hg]; exact (below_size (by repeat (first | (with_reducible first | exact HB.out | apply below_alloc | apply pw_below_drewN | apply below_drew1 | refine below_set ?_ GE177.out) | exact HB.out))) : w.heap.size ≤ gb179)); have n4_ := Aside0.mk ((by rw [hg]; exact (below_size (by repeat (first | (with_reducible first | exact HB.out | apply below_alloc | apply pw_below_drewN | apply below_drew1 | refine below_set ?_ GE177.out) | exact HB.out))) : w.heap.size ≤ gb179)); have n5_ := Aside0.mk ((by rw [hg]; exact Nat.ne_of_lt (blk_lt (g := gb177) (o := .cells #[.slice (some ad178) l0_0.length c0_0, .int .i64 a0_1] 24 (0, 0)) (by (with_reducible repeat (first | refine blk_drewN ?_ _ | refine blk_drew ?_ | refine blk_alloc ?_ _)); exact BK177.out)) : gb177 ≠ gb179)); have n6_ := Aside0.mk ((by rw [hg]; exact Nat.ne_of_gt (blk_lt (g := gb177) (o := .cells #[.slice (some ad178) l0_0.length c0_0, .int .i64 a0_1] 24 (0, 0)) (by (with_reducible repeat (first | refine blk_drewN ?_ _ | refine blk_drew ?_ | refine blk_alloc ?_ _)); exact BK177.out)) : gb179 ≠ gb177)); clear BK177; clear HB; have BK177 := n0_; have HB := n1_; have BK179 := n2_; have GW179 := n3_; have GE179 := n4_; have NB177_179 := n5_; have NB179_177 := n6_; clear n0_ n1_ n2_ n3_ n4_ n5_ n6_; clear hb hbox hg; have hnb8 := NB179_177.out; have hnc8 := NB177_179.out; have hcz9_0 : w7.cell? ⟨gb179, 0, none⟩ = some (.string (⟨#[]⟩ : ByteArray)) := (blk_cell BK179.out 0).trans rfl; have hcz9_1 : w7.cell? ⟨gb179, 1, none⟩ = some (.slice none 0 0) := (blk_cell BK179.out 1).trans rfl; have hcz9_2 : w7.cell? ⟨gb179, 2, none⟩ = some (.int .i64 0) := (blk_cell BK179.out 2).trans rfl; have hcz9_3 : w7.cell? ⟨gb179, 3, none⟩ = some (.slice none 0 0) := (blk_cell BK179.out 3).trans rfl; have hcz9_4 : w7.cell? ⟨gb179, 4, none⟩ = some (.slice none 0 0) := (blk_cell BK179.out 4).trans rfl; have hfz9_0 := blk_frozen BK179.out 0; have hfz9_1 := blk_frozen BK179.out 1; have hfz9_2 := blk_frozen BK179.out 2; have hfz9_3 := blk_frozen BK179.out 3; have hfz9_4 := blk_frozen BK179.out 4))
     (try simp only [Act.put, List.setIfInBounds_toArray, List.set_cons_zero, List.set_cons_succ])
     go_cut [3] (fun v3 wc => ∃ (kq : Nat) (x3_4 : Int), v3 = .int .i64 x3_4 ∧ Aside0 (quernlaw9_small.j2 kq x3_4 x4_1 l0_0 a0_1 ((rd_T38 l0_0 x4_1).f0) ((rd_T38 l0_0 x4_1).f1) ((rd_T38 l0_0 x4_1).f2) ((rd_T38 l0_0 x4_1).f3) ((rd_T38 l0_0 x4_1).f4) = some r) ∧ Aside0 (kq ≤ k1) ∧ Aside0 (wc.heap[gb177]? = some (.cells #[(.slice (some ad178) l0_0.length c0_0), .int .i64 a0_1] 24 (0, 0))) ∧ Aside0 (wc.heap[gb179]? = some (.cells #[.string ((rd_T38 l0_0 x4_1).f0), (.slice A178_1 ((rd_T38 l0_0 x4_1).f1).length c178_1), .int .i64 ((rd_T38 l0_0 x4_1).f2), (.slice A178_3 ((rd_T38 l0_0 x4_1).f3).length c178_3), (.slice A178_4 ((rd_T38 l0_0 x4_1).f4).length c178_4)] 38 (0, 0))) ∧ Aside0 (Below w.heap.size w wc))
     case first =>
      have H := HC5.out
      clear HC5
      have H' := Aside0.mk H
      clear H
      go_wp2
      go_loopg [3, 6] k1 (fun kq v3 v6 w' => ∃ (x3_2 : Int) (x6_2 : Int), v3 = .int .i64 x3_2 ∧ v6 = .int .i64 x6_2 ∧ Aside0 (quernlaw9_small.l1 kq x3_2 x4_1 x6_2 l0_0 a0_1 ((rd_T38 l0_0 x4_1).f0) ((rd_T38 l0_0 x4_1).f1) ((rd_T38 l0_0 x4_1).f2) ((rd_T38 l0_0 x4_1).f3) ((rd_T38 l0_0 x4_1).f4) = some r) ∧ Aside0 (kq ≤ k1) ∧ Aside0 (w'.heap[gb177]? = some (.cells #[(.slice (some ad178) l0_0.length c0_0), .int .i64 a0_1] 24 (0, 0))) ∧ Aside0 (w'.heap[gb179]? = some (.cells #[.string ((rd_T38 l0_0 x4_1).f0), (.slice A178_1 ((rd_T38 l0_0 x4_1).f1).length c178_1), .int .i64 ((rd_T38 l0_0 x4_1).f2), (.slice A178_3 ((rd_T38 l0_0 x4_1).f3).length c178_3), (.slice A178_4 ((rd_T38 l0_0 x4_1).f4).length c178_4)] 38 (0, 0))) ∧ Aside0 (Below w.heap.size w w'))
      case atStart => exact ⟨(wrap64 (x3_1 + (wrap64 ((wrap64 ((wrap64 ((((rd_T38 l0_0 x4_1).f0).size : Int) / 65)) + (((rd_T38 l0_0 x4_1).f1).length : Int))) + (wrap64 ((((rd_T38 l0_0 x4_1).f4).length : Int) * (((rd_T38 l0_0 x4_1).f4).length : Int))))))), (0), (by first | rfl | (simp; done) | (simp [*]; done)), (by first | rfl | (simp; done) | (simp [*]; done)), H', ⟨Nat.le_refl _⟩, ⟨by (with_reducible repeat (first | refine blk_drewN ?_ _ | refine blk_drew ?_ | refine blk_alloc ?_ _)); refine blk_far ?_ NB177_179.out _; (with_reducible repeat (first | refine blk_drewN ?_ _ | refine blk_drew ?_ | refine blk_alloc ?_ _)); refine blk_far ?_ NB177_179.out _; (with_reducible repeat (first | refine blk_drewN ?_ _ | refine blk_drew ?_ | refine blk_alloc ?_ _)); refine blk_far ?_ NB177_179.out _; (with_reducible repeat (first | refine blk_drewN ?_ _ | refine blk_drew ?_ | refine blk_alloc ?_ _)); refine blk_far ?_ NB177_179.out _; (with_reducible repeat (first | refine blk_drewN ?_ _ | refine blk_drew ?_ | refine blk_alloc ?_ _)); refine blk_far ?_ NB177_179.out _; (with_reducible repeat (first | refine blk_drewN ?_ _ | refine blk_drew ?_ | refine blk_alloc ?_ _)); exact BK177.out⟩, ⟨by (with_reducible repeat (first | refine blk_drewN ?_ _ | refine blk_drew ?_ | refine blk_alloc ?_ _)); refine blk_put (cs := #[.string ((rd_T38 l0_0 x4_1).f0), .slice A178_1 ((rd_T38 l0_0 x4_1).f1).length c178_1, .int .i64 ((rd_T38 l0_0 x4_1).f2), .slice A178_3 ((rd_T38 l0_0 x4_1).f3).length c178_3, .slice none 0 0]) ?_ 4 _ rfl; (with_reducible repeat (first | refine blk_drewN ?_ _ | refine blk_drew ?_ | refine blk_alloc ?_ _)); refine blk_put (cs := #[.string ((rd_T38 l0_0 x4_1).f0), .slice A178_1 ((rd_T38 l0_0 x4_1).f1).length c178_1, .int .i64 ((rd_T38 l0_0 x4_1).f2), .slice none 0 0, .slice none 0 0]) ?_ 3 _ rfl; (with_reducible repeat (first | refine blk_drewN ?_ _ | refine blk_drew ?_ | refine blk_alloc ?_ _)); refine blk_put (cs := #[.string ((rd_T38 l0_0 x4_1).f0), .slice A178_1 ((rd_T38 l0_0 x4_1).f1).length c178_1, .int .i64 0, .slice none 0 0, .slice none 0 0]) ?_ 2 _ rfl; (with_reducible repeat (first | refine blk_drewN ?_ _ | refine blk_drew ?_ | refine blk_alloc ?_ _)); refine blk_put (cs := #[.string ((rd_T38 l0_0 x4_1).f0), .slice none 0 0, .int .i64 0, .slice none 0 0, .slice none 0 0]) ?_ 1 _ rfl; (with_reducible repeat (first | refine blk_drewN ?_ _ | refine blk_drew ?_ | refine blk_alloc ?_ _)); refine blk_put (cs := #[.string (⟨#[]⟩ : ByteArray), .slice none 0 0, .int .i64 0, .slice none 0 0, .slice none 0 0]) ?_ 0 _ rfl; (with_reducible repeat (first | refine blk_drewN ?_ _ | refine blk_drew ?_ | refine blk_alloc ?_ _)); exact BK179.out⟩, ⟨by repeat (first | (with_reducible first | exact HB.out | apply below_alloc | apply pw_below_drewN | apply below_drew1 | refine below_set ?_ GE177.out | refine below_set ?_ GE179.out) | exact HB.out)⟩⟩
      case round =>
       clear H'
       try clear c1
       try clear p1
       try clear q1
       try clear hx1
       try clear p2
       try clear c3
       try clear c3b0
       try clear c4
       try clear c4b0
       try clear p6
       try clear c8
       try clear hcz6_0
       try clear hcz6_1
       try clear hcz9_0
       try clear hcz9_1
       try clear hcz9_2
       try clear hcz9_3
       try clear hcz9_4
       try clear hfz6_0
       try clear hfz6_1
       try clear hfz9_0
       try clear hfz9_1
       try clear hfz9_2
       try clear hfz9_3
       try clear hfz9_4
       try clear hx178_0
       try clear hx178_1
       try clear hx178_2
       try clear hx178_3
       try clear hx178_4
       try clear p178
       try clear p2
       try clear q178
       obtain ⟨x3_2, x6_2, rfl, rfl, HA, HK2, BK177, BK179, HB⟩ := hrel
       cases gk with
       | zero => exact absurd HA.out (by simp [quernlaw9_small.l1])
       | succ k2 =>
        have H := HA.out
        clear HA
        simp only [quernlaw9_small.l1] at H
        by_cases c10 : x6_2 < (((rd_T38 l0_0 x4_1).f3).length : Int)
        ·rw [if_pos c10] at H
         have c10b0 : decide (x6_2 < (((rd_T38 l0_0 x4_1).f3).length : Int)) = true := decide_eq_true c10
         clear c10
         (first | rw [c10b0] | (simp only [i64_w, i32_w]; rw [c10b0]) | skip)
         by_cases c11 : x3_2 ≤ 2000000
         ·rw [if_pos c11] at H
          have c11b0 : decide (x3_2 ≤ 2000000) = true := decide_eq_true c11
          clear c11
          by_cases c12 : 0 ≤ x6_2
          ·rw [if_pos c12] at H
           have c12b0 : decide (0 ≤ x6_2) = true := decide_eq_true c12
           clear c12
           have H' := Aside0.mk H
           clear H
           have hnb13 := NB179_177.out
           have hnc13 := NB177_179.out
           have hcz14_0 : wr.cell? ⟨gb179, 0, none⟩ = some (.string ((rd_T38 l0_0 x4_1).f0)) := (blk_cell BK179.out 0).trans rfl
           have hcz14_1 : wr.cell? ⟨gb179, 1, none⟩ = some (.slice A178_1 ((rd_T38 l0_0 x4_1).f1).length c178_1) := (blk_cell BK179.out 1).trans rfl
           have hcz14_2 : wr.cell? ⟨gb179, 2, none⟩ = some (.int .i64 ((rd_T38 l0_0 x4_1).f2)) := (blk_cell BK179.out 2).trans rfl
           have hcz14_3 : wr.cell? ⟨gb179, 3, none⟩ = some (.slice A178_3 ((rd_T38 l0_0 x4_1).f3).length c178_3) := (blk_cell BK179.out 3).trans rfl
           have hcz14_4 : wr.cell? ⟨gb179, 4, none⟩ = some (.slice A178_4 ((rd_T38 l0_0 x4_1).f4).length c178_4) := (blk_cell BK179.out 4).trans rfl
           have hfz14_0 := blk_frozen BK179.out 0
           have hfz14_1 := blk_frozen BK179.out 1
           have hfz14_2 := blk_frozen BK179.out 2
           have hfz14_3 := blk_frozen BK179.out 3
           have hfz14_4 := blk_frozen BK179.out 4
           have p180 : 0 ≤ (x6_2 : Int) := of_decide_eq_true (by first | (with_reducible assumption) | assumption)
           have q180 : x6_2 < (((rd_T38 l0_0 x4_1).f3).length : Int) := of_decide_eq_true (by first | (with_reducible assumption) | assumption)
           obtain ⟨ad180, A180_3, c180_3, e180, hx180_0, hx180_1, hx180_2, hx180_3, hl180_3, hi180_3⟩ := at_T42 HR178_3.out x6_2 p180 q180
           cases e180
           replace hx180_0 := cellA HB hx180_0
           replace hx180_1 := cellA HB hx180_1
           replace hx180_2 := cellA HB hx180_2
           replace hx180_3 := cellA HB hx180_3
           have HR180_3 := Aside0.mk hi180_3
           have HC180_3 := Aside0.mk hl180_3
           clear hi180_3 hl180_3
           replace p180 := eq_true p180
           replace q180 := eq_true q180
           go_wp2
           go_roundg k2
           case measure => have := HK1.out; have := HK2.out; omega
           case rel => exact ⟨(wrap64 (x3_2 + (wrap64 (1 + (((rd_T42 ((rd_T38 l0_0 x4_1).f3) x6_2).f3).length : Int))))), (wrap64 (x6_2 + 1)), (by first | rfl | (simp; done) | (simp [*]; done)), (by first | rfl | (simp; done) | (simp [*]; done)), H', ⟨by have := HK1.out; have := HK2.out; omega⟩, ⟨by (with_reducible repeat (first | refine blk_drewN ?_ _ | refine blk_drew ?_ | refine blk_alloc ?_ _)); exact BK177.out⟩, ⟨by (with_reducible repeat (first | refine blk_drewN ?_ _ | refine blk_drew ?_ | refine blk_alloc ?_ _)); exact BK179.out⟩, ⟨by repeat (first | (with_reducible first | exact HB.out | apply below_alloc | apply pw_below_drewN | apply below_drew1 | refine below_set ?_ GE177.out | refine below_set ?_ GE179.out) | exact HB.out)⟩⟩
          ·rw [if_neg c12] at H
           exact absurd H (by simp)
         ·rw [if_neg c11] at H
          have c11b0 : decide (x3_2 ≤ 2000000) = false := decide_eq_false c11
          clear c11
          have H' := Aside0.mk H
          clear H
          have hnb15 := NB179_177.out
          have hnc15 := NB177_179.out
          have hcz16_0 : wr.cell? ⟨gb179, 0, none⟩ = some (.string ((rd_T38 l0_0 x4_1).f0)) := (blk_cell BK179.out 0).trans rfl
          have hcz16_1 : wr.cell? ⟨gb179, 1, none⟩ = some (.slice A178_1 ((rd_T38 l0_0 x4_1).f1).length c178_1) := (blk_cell BK179.out 1).trans rfl
          have hcz16_2 : wr.cell? ⟨gb179, 2, none⟩ = some (.int .i64 ((rd_T38 l0_0 x4_1).f2)) := (blk_cell BK179.out 2).trans rfl
          have hcz16_3 : wr.cell? ⟨gb179, 3, none⟩ = some (.slice A178_3 ((rd_T38 l0_0 x4_1).f3).length c178_3) := (blk_cell BK179.out 3).trans rfl
          have hcz16_4 : wr.cell? ⟨gb179, 4, none⟩ = some (.slice A178_4 ((rd_T38 l0_0 x4_1).f4).length c178_4) := (blk_cell BK179.out 4).trans rfl
          have hfz16_0 := blk_frozen BK179.out 0
          have hfz16_1 := blk_frozen BK179.out 1
          have hfz16_2 := blk_frozen BK179.out 2
          have hfz16_3 := blk_frozen BK179.out 3
          have hfz16_4 := blk_frozen BK179.out 4
          go_wp2
          go_meet
          case rel => exact ⟨_, (x3_2), (by first | rfl | (simp; done) | (simp [*]; done)), H', ⟨by have := HK1.out; have := HK2.out; first | omega | exact Nat.le_refl _⟩, ⟨by (with_reducible repeat (first | refine blk_drewN ?_ _ | refine blk_drew ?_ | refine blk_alloc ?_ _)); exact BK177.out⟩, ⟨by (with_reducible repeat (first | refine blk_drewN ?_ _ | refine blk_drew ?_ | refine blk_alloc ?_ _)); exact BK179.out⟩, ⟨by repeat (first | (with_reducible first | exact HB.out | apply below_alloc | apply pw_below_drewN | apply below_drew1 | refine below_set ?_ GE177.out | refine below_set ?_ GE179.out) | exact HB.out)⟩⟩
        ·rw [if_neg c10] at H
         have c10b0 : decide (x6_2 < (((rd_T38 l0_0 x4_1).f3).length : Int)) = false := decide_eq_false c10
         clear c10
         (first | rw [c10b0] | (simp only [i64_w, i32_w]; rw [c10b0]) | skip)
         have H' := Aside0.mk H
         clear H
         have hnb17 := NB179_177.out
         have hnc17 := NB177_179.out
         have hcz18_0 : wr.cell? ⟨gb179, 0, none⟩ = some (.string ((rd_T38 l0_0 x4_1).f0)) := (blk_cell BK179.out 0).trans rfl
         have hcz18_1 : wr.cell? ⟨gb179, 1, none⟩ = some (.slice A178_1 ((rd_T38 l0_0 x4_1).f1).length c178_1) := (blk_cell BK179.out 1).trans rfl
         have hcz18_2 : wr.cell? ⟨gb179, 2, none⟩ = some (.int .i64 ((rd_T38 l0_0 x4_1).f2)) := (blk_cell BK179.out 2).trans rfl
         have hcz18_3 : wr.cell? ⟨gb179, 3, none⟩ = some (.slice A178_3 ((rd_T38 l0_0 x4_1).f3).length c178_3) := (blk_cell BK179.out 3).trans rfl
         have hcz18_4 : wr.cell? ⟨gb179, 4, none⟩ = some (.slice A178_4 ((rd_T38 l0_0 x4_1).f4).length c178_4) := (blk_cell BK179.out 4).trans rfl
         have hfz18_0 := blk_frozen BK179.out 0
         have hfz18_1 := blk_frozen BK179.out 1
         have hfz18_2 := blk_frozen BK179.out 2
         have hfz18_3 := blk_frozen BK179.out 3
         have hfz18_4 := blk_frozen BK179.out 4
         go_wp2
         go_meet
         case rel => exact ⟨_, (x3_2), (by first | rfl | (simp; done) | (simp [*]; done)), H', ⟨by have := HK1.out; have := HK2.out; first | omega | exact Nat.le_refl _⟩, ⟨by (with_reducible repeat (first | refine blk_drewN ?_ _ | refine blk_drew ?_ | refine blk_alloc ?_ _)); exact BK177.out⟩, ⟨by (with_reducible repeat (first | refine blk_drewN ?_ _ | refine blk_drew ?_ | refine blk_alloc ?_ _)); exact BK179.out⟩, ⟨by repeat (first | (with_reducible first | exact HB.out | apply below_alloc | apply pw_below_drewN | apply below_drew1 | refine below_set ?_ GE177.out | refine below_set ?_ GE179.out) | exact HB.out)⟩⟩
     case rest =>
      clear HC5
      try clear c1
      try clear p1
      try clear q1
      try clear hx1
      try clear p2
      try clear c3
      try clear c3b0
      try clear c4
      try clear c4b0
      try clear p6
      try clear c8
      try clear c10
      try clear c10b0
      try clear c11
      try clear c11b0
      try clear c12
      try clear c12b0
      try clear c13
      try clear c15
      try clear c17
      try clear p17
      try clear q17
      try clear hx17
      try clear c18
      try clear p18
      try clear q18
      try clear hx18
      try clear hcz14_0
      try clear hcz14_1
      try clear hcz14_2
      try clear hcz14_3
      try clear hcz14_4
      try clear hcz16_0
      try clear hcz16_1
      try clear hcz16_2
      try clear hcz16_3
      try clear hcz16_4
      try clear hcz18_0
      try clear hcz18_1
      try clear hcz18_2
      try clear hcz18_3
      try clear hcz18_4
      try clear hcz6_0
      try clear hcz6_1
      try clear hcz9_0
      try clear hcz9_1
      try clear hcz9_2
      try clear hcz9_3
      try clear hcz9_4
      try clear hfz14_0
      try clear hfz14_1
      try clear hfz14_2
      try clear hfz14_3
      try clear hfz14_4
      try clear hfz16_0
      try clear hfz16_1
      try clear hfz16_2
      try clear hfz16_3
      try clear hfz16_4
      try clear hfz18_0
      try clear hfz18_1
      try clear hfz18_2
      try clear hfz18_3
      try clear hfz18_4
      try clear hfz6_0
      try clear hfz6_1
      try clear hfz9_0
      try clear hfz9_1
      try clear hfz9_2
      try clear hfz9_3
      try clear hfz9_4
      try clear hx178_0
      try clear hx178_1
      try clear hx178_2
      try clear hx178_3
      try clear hx178_4
      try clear hx180_0
      try clear hx180_1
      try clear hx180_2
      try clear hx180_3
      try clear p1
      try clear p178
      try clear p180
      try clear p2
      try clear p6
      try clear q1
      try clear q178
      try clear q180
      obtain ⟨kq, x3_4, rfl, HA, HJ4, BK177, BK179, HB⟩ := hcut
      cases kq with
      | zero => exact absurd HA.out (by simp [quernlaw9_small.j2])
      | succ kj4 =>
       have H := HA.out
       clear HA
       simp only [quernlaw9_small.j2] at H
       have H' := Aside0.mk H
       clear H
       go_wp2
       go_loopg [3, 7] kj4 (fun kq v3 v7 w' => ∃ (x3_3 : Int) (x7_3 : Int), v3 = .int .i64 x3_3 ∧ v7 = .int .i64 x7_3 ∧ Aside0 (quernlaw9_small.l2 kq x3_3 x4_1 x7_3 l0_0 a0_1 ((rd_T38 l0_0 x4_1).f0) ((rd_T38 l0_0 x4_1).f1) ((rd_T38 l0_0 x4_1).f2) ((rd_T38 l0_0 x4_1).f3) ((rd_T38 l0_0 x4_1).f4) = some r) ∧ Aside0 (kq ≤ kj4) ∧ Aside0 (w'.heap[gb177]? = some (.cells #[(.slice (some ad178) l0_0.length c0_0), .int .i64 a0_1] 24 (0, 0))) ∧ Aside0 (w'.heap[gb179]? = some (.cells #[.string ((rd_T38 l0_0 x4_1).f0), (.slice A178_1 ((rd_T38 l0_0 x4_1).f1).length c178_1), .int .i64 ((rd_T38 l0_0 x4_1).f2), (.slice A178_3 ((rd_T38 l0_0 x4_1).f3).length c178_3), (.slice A178_4 ((rd_T38 l0_0 x4_1).f4).length c178_4)] 38 (0, 0))) ∧ Aside0 (Below w.heap.size w w'))
       case atStart => exact ⟨(x3_4), (0), (by first | rfl | (simp; done) | (simp [*]; done)), (by first | rfl | (simp; done) | (simp [*]; done)), H', ⟨Nat.le_refl _⟩, ⟨by (with_reducible repeat (first | refine blk_drewN ?_ _ | refine blk_drew ?_ | refine blk_alloc ?_ _)); exact BK177.out⟩, ⟨by (with_reducible repeat (first | refine blk_drewN ?_ _ | refine blk_drew ?_ | refine blk_alloc ?_ _)); exact BK179.out⟩, ⟨by repeat (first | (with_reducible first | exact HB.out | apply below_alloc | apply pw_below_drewN | apply below_drew1 | refine below_set ?_ GE177.out | refine below_set ?_ GE179.out) | exact HB.out)⟩⟩
       case round =>
        clear H'
        try clear c1
        try clear p1
        try clear q1
        try clear hx1
        try clear p2
        try clear c3
        try clear c3b0
        try clear c4
        try clear c4b0
        try clear p6
        try clear c8
        try clear c10
        try clear c10b0
        try clear c11
        try clear c11b0
        try clear c12
        try clear c12b0
        try clear c13
        try clear c15
        try clear c17
        try clear p17
        try clear q17
        try clear hx17
        try clear c18
        try clear p18
        try clear q18
        try clear hx18
        try clear hcz14_0
        try clear hcz14_1
        try clear hcz14_2
        try clear hcz14_3
        try clear hcz14_4
        try clear hcz16_0
        try clear hcz16_1
        try clear hcz16_2
        try clear hcz16_3
        try clear hcz16_4
        try clear hcz18_0
        try clear hcz18_1
        try clear hcz18_2
        try clear hcz18_3
        try clear hcz18_4
        try clear hcz6_0
        try clear hcz6_1
        try clear hcz9_0
        try clear hcz9_1
        try clear hcz9_2
        try clear hcz9_3
        try clear hcz9_4
        try clear hfz14_0
        try clear hfz14_1
        try clear hfz14_2
        try clear hfz14_3
        try clear hfz14_4
        try clear hfz16_0
        try clear hfz16_1
        try clear hfz16_2
        try clear hfz16_3
        try clear hfz16_4
        try clear hfz18_0
        try clear hfz18_1
        try clear hfz18_2
        try clear hfz18_3
        try clear hfz18_4
        try clear hfz6_0
        try clear hfz6_1
        try clear hfz9_0
        try clear hfz9_1
        try clear hfz9_2
        try clear hfz9_3
        try clear hfz9_4
        try clear hx178_0
        try clear hx178_1
        try clear hx178_2
        try clear hx178_3
        try clear hx178_4
        try clear hx180_0
        try clear hx180_1
        try clear hx180_2
        try clear hx180_3
        try clear p1
        try clear p17
        try clear p178
        try clear p18
        try clear p180
        try clear p2
        try clear p6
        try clear q1
        try clear q17
        try clear q178
        try clear q18
        try clear q180
        obtain ⟨x3_3, x7_3, rfl, rfl, HA, HK3, BK177, BK179, HB⟩ := hrel
        cases gk with
        | zero => exact absurd HA.out (by simp [quernlaw9_small.l2])
        | succ k3 =>
         have H := HA.out
         clear HA
         simp only [quernlaw9_small.l2] at H
         by_cases c19 : x7_3 < (((rd_T38 l0_0 x4_1).f4).length : Int)
         ·rw [if_pos c19] at H
          have c19b0 : decide (x7_3 < (((rd_T38 l0_0 x4_1).f4).length : Int)) = true := decide_eq_true c19
          clear c19
          by_cases c20 : x3_3 ≤ 2000000
          ·rw [if_pos c20] at H
           have c20b0 : decide (x3_3 ≤ 2000000) = true := decide_eq_true c20
           clear c20
           by_cases c21 : 0 ≤ x7_3
           ·rw [if_pos c21] at H
            have c21b0 : decide (0 ≤ x7_3) = true := decide_eq_true c21
            clear c21
            have H' := Aside0.mk H
            clear H
            have hnb22 := NB179_177.out
            have hnc22 := NB177_179.out
            have hcz23_0 : wr.cell? ⟨gb179, 0, none⟩ = some (.string ((rd_T38 l0_0 x4_1).f0)) := (blk_cell BK179.out 0).trans rfl
            have hcz23_1 : wr.cell? ⟨gb179, 1, none⟩ = some (.slice A178_1 ((rd_T38 l0_0 x4_1).f1).length c178_1) := (blk_cell BK179.out 1).trans rfl
            have hcz23_2 : wr.cell? ⟨gb179, 2, none⟩ = some (.int .i64 ((rd_T38 l0_0 x4_1).f2)) := (blk_cell BK179.out 2).trans rfl
            have hcz23_3 : wr.cell? ⟨gb179, 3, none⟩ = some (.slice A178_3 ((rd_T38 l0_0 x4_1).f3).length c178_3) := (blk_cell BK179.out 3).trans rfl
            have hcz23_4 : wr.cell? ⟨gb179, 4, none⟩ = some (.slice A178_4 ((rd_T38 l0_0 x4_1).f4).length c178_4) := (blk_cell BK179.out 4).trans rfl
            have hfz23_0 := blk_frozen BK179.out 0
            have hfz23_1 := blk_frozen BK179.out 1
            have hfz23_2 := blk_frozen BK179.out 2
            have hfz23_3 := blk_frozen BK179.out 3
            have hfz23_4 := blk_frozen BK179.out 4
            have p181 : 0 ≤ (x7_3 : Int) := of_decide_eq_true (by first | (with_reducible assumption) | assumption)
            have q181 : x7_3 < (((rd_T38 l0_0 x4_1).f4).length : Int) := of_decide_eq_true (by first | (with_reducible assumption) | assumption)
            obtain ⟨ad181, A181_0, c181_0, A181_1, c181_1, A181_4, c181_4, A181_5, c181_5, e181, hx181_0, hx181_1, hx181_2, hx181_3, hx181_4, hx181_5, hl181_0, hi181_0, hl181_1, hi181_1, hl181_4, hi181_4, hl181_5, hi181_5⟩ := at_T46 HR178_4.out x7_3 p181 q181
            cases e181
            replace hx181_0 := cellA HB hx181_0
            replace hx181_1 := cellA HB hx181_1
            replace hx181_2 := cellA HB hx181_2
            replace hx181_3 := cellA HB hx181_3
            replace hx181_4 := cellA HB hx181_4
            replace hx181_5 := cellA HB hx181_5
            have HR181_0 := Aside0.mk hi181_0
            have HC181_0 := Aside0.mk hl181_0
            clear hi181_0 hl181_0
            have HR181_1 := Aside0.mk hi181_1
            have HC181_1 := Aside0.mk hl181_1
            clear hi181_1 hl181_1
            have HR181_4 := Aside0.mk hi181_4
            have HC181_4 := Aside0.mk hl181_4
            clear hi181_4 hl181_4
            have HR181_5 := Aside0.mk hi181_5
            have HC181_5 := Aside0.mk hl181_5
            clear hi181_5 hl181_5
            replace p181 := eq_true p181
            replace q181 := eq_true q181
            go_wp2_with (first | ((with_reducible refine gate_dst (N := 8) rfl ?_); refine box_event ?hg (N := 8) ?hd (cs := #[.slice none 0 0, .slice none 0 0, .int .i64 0, .int .i64 0, .slice none 0 0, .slice none 0 0]) (t := 46) ?hr ?_; (case hd => rfl); (case hg => rfl); (case hr => first | (go_simp; done) | (go_simp; rfl)); intro gb182 hg w24 hbox hb; have n0_ := Aside0.mk (blk_below (g := gb177) (o := .cells #[.slice (some ad178) l0_0.length c0_0, .int .i64 a0_1] 24 (0, 0)) (by (with_reducible repeat (first | refine blk_drewN ?_ _ | refine blk_drew ?_ | refine blk_alloc ?_ _)); exact BK177.out) hb); have n1_ := Aside0.mk (blk_below (g := gb179) (o := .cells #[.string ((rd_T38 l0_0 x4_1).f0), .slice A178_1 ((rd_T38 l0_0 x4_1).f1).length c178_1, .int .i64 ((rd_T38 l0_0 x4_1).f2), .slice A178_3 ((rd_T38 l0_0 x4_1).f3).length c178_3, .slice (some ad181) ((rd_T38 l0_0 x4_1).f4).length c178_4] 38 (0, 0)) (by (with_reducible repeat (first | refine blk_drewN ?_ _ | refine blk_drew ?_ | refine blk_alloc ?_ _)); exact BK179.out) hb); have n2_ := Aside0.mk (below_step (by repeat (first | (with_reducible first | exact HB.out | apply below_alloc | apply pw_below_drewN | apply below_drew1 | refine below_set ?_ GE177.out | refine below_set ?_ GE179.out) | exact HB.out)) hb); have n3_ := Aside0.mk (hbox); have n4_ := Aside0.mk ((by rw [hg]; exact (below_size (by repeat (first | (with_reducible first | exact HB.out | apply below_alloc | apply pw_below_drewN | apply below_drew1 | refine below_set ?_ GE177.out | refine below_set ?_ GE179.out) | exact HB.out))) : w.heap.size ≤ gb182)); have n5_ := Aside0.mk ((by rw [hg]; exact (below_size (by repeat (first | (with_reducible first | exact HB.out | apply below_alloc | apply pw_below_drewN | apply below_drew1 | refine below_set ?_ GE177.out | refine below_set ?_ GE179.out) | exact HB.out))) : w.heap.size ≤ gb182)); have n6_ := Aside0.mk ((by rw [hg]; exact Nat.ne_of_lt (blk_lt (g := gb177) (o := .cells #[.slice (some ad178) l0_0.length c0_0, .int .i64 a0_1] 24 (0, 0)) (by (with_reducible repeat (first | refine blk_drewN ?_ _ | refine blk_drew ?_ | refine blk_alloc ?_ _)); exact BK177.out)) : gb177 ≠ gb182)); have n7_ := Aside0.mk ((by rw [hg]; exact Nat.ne_of_gt (blk_lt (g := gb177) (o := .cells #[.slice (some ad178) l0_0.length c0_0, .int .i64 a0_1] 24 (0, 0)) (by (with_reducible repeat (first | refine blk_drewN ?_ _ | refine blk_drew ?_ | refine blk_alloc ?_ _)); exact BK177.out)) : gb182 ≠ gb177)); have n8_ := Aside0.mk ((by rw [hg]; exact Nat.ne_of_lt (blk_lt (g := gb179) (o := .cells #[.string ((rd_T38 l0_0 x4_1).f0), .slice A178_1 ((rd_T38 l0_0 x4_1).f1).length c178_1, .int .i64 ((rd_T38 l0_0 x4_1).f2), .slice A178_3 ((rd_T38 l0_0 x4_1).f3).length c178_3, .slice (some ad181) ((rd_T38 l0_0 x4_1).f4).length c178_4] 38 (0, 0)) (by (with_reducible repeat (first | refine blk_drewN ?_ _ | refine blk_drew ?_ | refine blk_alloc ?_ _)); exact BK179.out)) : gb179 ≠ gb182)); have n9_ := Aside0.mk ((by rw [hg]; exact Nat.ne_of_gt (blk_lt (g := gb179) (o := .cells #[.string ((rd_T38 l0_0 x4_1).f0), .slice A178_1 ((rd_T38 l0_0 x4_1).f1).length c178_1, .int .i64 ((rd_T38 l0_0 x4_1).f2), .slice A178_3 ((rd_T38 l0_0 x4_1).f3).length c178_3, .slice (some ad181) ((rd_T38 l0_0 x4_1).f4).length c178_4] 38 (0, 0)) (by (with_reducible repeat (first | refine blk_drewN ?_ _ | refine blk_drew ?_ | refine blk_alloc ?_ _)); exact BK179.out)) : gb182 ≠ gb179)); clear BK177; clear BK179; clear HB; have BK177 := n0_; have BK179 := n1_; have HB := n2_; have BK182 := n3_; have GW182 := n4_; have GE182 := n5_; have NB177_182 := n6_; have NB182_177 := n7_; have NB179_182 := n8_; have NB182_179 := n9_; clear n0_ n1_ n2_ n3_ n4_ n5_ n6_ n7_ n8_ n9_; clear hb hbox hg; have hnb25 := NB182_177.out; have hnc25 := NB177_182.out; have hnb26 := NB182_179.out; have hnc26 := NB179_182.out; have hcz27_0 : w24.cell? ⟨gb182, 0, none⟩ = some (.slice none 0 0) := (blk_cell BK182.out 0).trans rfl; have hcz27_1 : w24.cell? ⟨gb182, 1, none⟩ = some (.slice none 0 0) := (blk_cell BK182.out 1).trans rfl; have hcz27_2 : w24.cell? ⟨gb182, 2, none⟩ = some (.int .i64 0) := (blk_cell BK182.out 2).trans rfl; have hcz27_3 : w24.cell? ⟨gb182, 3, none⟩ = some (.int .i64 0) := (blk_cell BK182.out 3).trans rfl; have hcz27_4 : w24.cell? ⟨gb182, 4, none⟩ = some (.slice none 0 0) := (blk_cell BK182.out 4).trans rfl; have hcz27_5 : w24.cell? ⟨gb182, 5, none⟩ = some (.slice none 0 0) := (blk_cell BK182.out 5).trans rfl; have hfz27_0 := blk_frozen BK182.out 0; have hfz27_1 := blk_frozen BK182.out 1; have hfz27_2 := blk_frozen BK182.out 2; have hfz27_3 := blk_frozen BK182.out 3; have hfz27_4 := blk_frozen BK182.out 4; have hfz27_5 := blk_frozen BK182.out 5))
            go_roundg k3
            case measure => have := HK1.out; have := HJ4.out; have := HK3.out; omega
            case rel => exact ⟨(wrap64 (x3_3 + (wrap64 ((wrap64 ((wrap64 ((wrap64 (1 + (((rd_T46 ((rd_T38 l0_0 x4_1).f4) x7_3).f0).length : Int))) + (((rd_T46 ((rd_T38 l0_0 x4_1).f4) x7_3).f1).length : Int))) + (((rd_T46 ((rd_T38 l0_0 x4_1).f4) x7_3).f3).length : Int))) + (((rd_T46 ((rd_T38 l0_0 x4_1).f4) x7_3).f2.f2).length : Int))))), (wrap64 (x7_3 + 1)), (by first | rfl | (simp; done) | (simp [*]; done)), (by first | rfl | (simp; done) | (simp [*]; done)), H', ⟨by have := HK1.out; have := HJ4.out; have := HK3.out; omega⟩, ⟨by (with_reducible repeat (first | refine blk_drewN ?_ _ | refine blk_drew ?_ | refine blk_alloc ?_ _)); refine blk_far ?_ NB177_182.out _; (with_reducible repeat (first | refine blk_drewN ?_ _ | refine blk_drew ?_ | refine blk_alloc ?_ _)); refine blk_far ?_ NB177_182.out _; (with_reducible repeat (first | refine blk_drewN ?_ _ | refine blk_drew ?_ | refine blk_alloc ?_ _)); refine blk_far ?_ NB177_182.out _; (with_reducible repeat (first | refine blk_drewN ?_ _ | refine blk_drew ?_ | refine blk_alloc ?_ _)); refine blk_far ?_ NB177_182.out _; (with_reducible repeat (first | refine blk_drewN ?_ _ | refine blk_drew ?_ | refine blk_alloc ?_ _)); refine blk_far ?_ NB177_182.out _; (with_reducible repeat (first | refine blk_drewN ?_ _ | refine blk_drew ?_ | refine blk_alloc ?_ _)); refine blk_far ?_ NB177_182.out _; (with_reducible repeat (first | refine blk_drewN ?_ _ | refine blk_drew ?_ | refine blk_alloc ?_ _)); exact BK177.out⟩, ⟨by (with_reducible repeat (first | refine blk_drewN ?_ _ | refine blk_drew ?_ | refine blk_alloc ?_ _)); refine blk_far ?_ NB179_182.out _; (with_reducible repeat (first | refine blk_drewN ?_ _ | refine blk_drew ?_ | refine blk_alloc ?_ _)); refine blk_far ?_ NB179_182.out _; (with_reducible repeat (first | refine blk_drewN ?_ _ | refine blk_drew ?_ | refine blk_alloc ?_ _)); refine blk_far ?_ NB179_182.out _; (with_reducible repeat (first | refine blk_drewN ?_ _ | refine blk_drew ?_ | refine blk_alloc ?_ _)); refine blk_far ?_ NB179_182.out _; (with_reducible repeat (first | refine blk_drewN ?_ _ | refine blk_drew ?_ | refine blk_alloc ?_ _)); refine blk_far ?_ NB179_182.out _; (with_reducible repeat (first | refine blk_drewN ?_ _ | refine blk_drew ?_ | refine blk_alloc ?_ _)); refine blk_far ?_ NB179_182.out _; (with_reducible repeat (first | refine blk_drewN ?_ _ | refine blk_drew ?_ | refine blk_alloc ?_ _)); exact BK179.out⟩, ⟨by repeat (first | (with_reducible first | exact HB.out | apply below_alloc | apply pw_below_drewN | apply below_drew1 | refine below_set ?_ GE177.out | refine below_set ?_ GE179.out | refine below_set ?_ GE182.out) | exact HB.out)⟩⟩
           ·rw [if_neg c21] at H
            exact absurd H (by simp)
          ·rw [if_neg c20] at H
           have c20b0 : decide (x3_3 ≤ 2000000) = false := decide_eq_false c20
           clear c20
           by_cases c28 : x3_3 > 2000000
           ·rw [if_pos c28] at H
            have c28b0 : decide (2000000 < x3_3) = true := decide_eq_true c28
            clear c28
            obtain rfl := Option.some.inj H
            have hnb29 := NB179_177.out
            have hnc29 := NB177_179.out
            have hcz30_0 : wr.cell? ⟨gb179, 0, none⟩ = some (.string ((rd_T38 l0_0 x4_1).f0)) := (blk_cell BK179.out 0).trans rfl
            have hcz30_1 : wr.cell? ⟨gb179, 1, none⟩ = some (.slice A178_1 ((rd_T38 l0_0 x4_1).f1).length c178_1) := (blk_cell BK179.out 1).trans rfl
            have hcz30_2 : wr.cell? ⟨gb179, 2, none⟩ = some (.int .i64 ((rd_T38 l0_0 x4_1).f2)) := (blk_cell BK179.out 2).trans rfl
            have hcz30_3 : wr.cell? ⟨gb179, 3, none⟩ = some (.slice A178_3 ((rd_T38 l0_0 x4_1).f3).length c178_3) := (blk_cell BK179.out 3).trans rfl
            have hcz30_4 : wr.cell? ⟨gb179, 4, none⟩ = some (.slice A178_4 ((rd_T38 l0_0 x4_1).f4).length c178_4) := (blk_cell BK179.out 4).trans rfl
            have hfz30_0 := blk_frozen BK179.out 0
            have hfz30_1 := blk_frozen BK179.out 1
            have hfz30_2 := blk_frozen BK179.out 2
            have hfz30_3 := blk_frozen BK179.out 3
            have hfz30_4 := blk_frozen BK179.out 4
            go_wp2
            go_ret
            exact ⟨by first | rfl | (simp [errW_none, errW_some] <;> rfl) | (simp [*, errW_none, errW_some] <;> rfl), by repeat (first | (with_reducible first | exact HB.out | apply below_alloc | apply pw_below_drewN | apply below_drew1 | refine below_set ?_ GE177.out | refine below_set ?_ GE179.out) | exact HB.out)⟩
           ·rw [if_neg c28] at H
            have c28b0 : decide (2000000 < x3_3) = false := decide_eq_false c28
            clear c28
            have H' := Aside0.mk H
            clear H
            have hnb31 := NB179_177.out
            have hnc31 := NB177_179.out
            have hcz32_0 : wr.cell? ⟨gb179, 0, none⟩ = some (.string ((rd_T38 l0_0 x4_1).f0)) := (blk_cell BK179.out 0).trans rfl
            have hcz32_1 : wr.cell? ⟨gb179, 1, none⟩ = some (.slice A178_1 ((rd_T38 l0_0 x4_1).f1).length c178_1) := (blk_cell BK179.out 1).trans rfl
            have hcz32_2 : wr.cell? ⟨gb179, 2, none⟩ = some (.int .i64 ((rd_T38 l0_0 x4_1).f2)) := (blk_cell BK179.out 2).trans rfl
            have hcz32_3 : wr.cell? ⟨gb179, 3, none⟩ = some (.slice A178_3 ((rd_T38 l0_0 x4_1).f3).length c178_3) := (blk_cell BK179.out 3).trans rfl
            have hcz32_4 : wr.cell? ⟨gb179, 4, none⟩ = some (.slice A178_4 ((rd_T38 l0_0 x4_1).f4).length c178_4) := (blk_cell BK179.out 4).trans rfl
            have hfz32_0 := blk_frozen BK179.out 0
            have hfz32_1 := blk_frozen BK179.out 1
            have hfz32_2 := blk_frozen BK179.out 2
            have hfz32_3 := blk_frozen BK179.out 3
            have hfz32_4 := blk_frozen BK179.out 4
            go_wp2
            go_roundg k3
            case measure => have := HK1.out; have := HJ4.out; have := HK3.out; omega
            case rel => exact ⟨(x3_3), (wrap64 (x4_1 + 1)), (by first | rfl | (simp; done) | (simp [*]; done)), (by first | rfl | (simp; done) | (simp [*]; done)), H', ⟨by have := HK1.out; have := HJ4.out; have := HK3.out; omega⟩, ⟨by (with_reducible repeat (first | refine blk_drewN ?_ _ | refine blk_drew ?_ | refine blk_alloc ?_ _)); exact BK177.out⟩, ⟨by repeat (first | (with_reducible first | exact HB.out | apply below_alloc | apply pw_below_drewN | apply below_drew1 | refine below_set ?_ GE177.out | refine below_set ?_ GE179.out) | exact HB.out)⟩⟩
         ·rw [if_neg c19] at H
          have c19b0 : decide (x7_3 < (((rd_T38 l0_0 x4_1).f4).length : Int)) = false := decide_eq_false c19
          clear c19
          by_cases c33 : x3_3 > 2000000
          ·rw [if_pos c33] at H
           have c33b0 : decide (2000000 < x3_3) = true := decide_eq_true c33
           clear c33
           obtain rfl := Option.some.inj H
           have hnb34 := NB179_177.out
           have hnc34 := NB177_179.out
           have hcz35_0 : wr.cell? ⟨gb179, 0, none⟩ = some (.string ((rd_T38 l0_0 x4_1).f0)) := (blk_cell BK179.out 0).trans rfl
           have hcz35_1 : wr.cell? ⟨gb179, 1, none⟩ = some (.slice A178_1 ((rd_T38 l0_0 x4_1).f1).length c178_1) := (blk_cell BK179.out 1).trans rfl
           have hcz35_2 : wr.cell? ⟨gb179, 2, none⟩ = some (.int .i64 ((rd_T38 l0_0 x4_1).f2)) := (blk_cell BK179.out 2).trans rfl
           have hcz35_3 : wr.cell? ⟨gb179, 3, none⟩ = some (.slice A178_3 ((rd_T38 l0_0 x4_1).f3).length c178_3) := (blk_cell BK179.out 3).trans rfl
           have hcz35_4 : wr.cell? ⟨gb179, 4, none⟩ = some (.slice A178_4 ((rd_T38 l0_0 x4_1).f4).length c178_4) := (blk_cell BK179.out 4).trans rfl
           have hfz35_0 := blk_frozen BK179.out 0
           have hfz35_1 := blk_frozen BK179.out 1
           have hfz35_2 := blk_frozen BK179.out 2
           have hfz35_3 := blk_frozen BK179.out 3
           have hfz35_4 := blk_frozen BK179.out 4
           go_wp2
           go_ret
           exact ⟨by first | rfl | (simp [errW_none, errW_some] <;> rfl) | (simp [*, errW_none, errW_some] <;> rfl), by repeat (first | (with_reducible first | exact HB.out | apply below_alloc | apply pw_below_drewN | apply below_drew1 | refine below_set ?_ GE177.out | refine below_set ?_ GE179.out) | exact HB.out)⟩
          ·rw [if_neg c33] at H
           have c33b0 : decide (2000000 < x3_3) = false := decide_eq_false c33
           clear c33
           have H' := Aside0.mk H
           clear H
           have hnb36 := NB179_177.out
           have hnc36 := NB177_179.out
           have hcz37_0 : wr.cell? ⟨gb179, 0, none⟩ = some (.string ((rd_T38 l0_0 x4_1).f0)) := (blk_cell BK179.out 0).trans rfl
           have hcz37_1 : wr.cell? ⟨gb179, 1, none⟩ = some (.slice A178_1 ((rd_T38 l0_0 x4_1).f1).length c178_1) := (blk_cell BK179.out 1).trans rfl
           have hcz37_2 : wr.cell? ⟨gb179, 2, none⟩ = some (.int .i64 ((rd_T38 l0_0 x4_1).f2)) := (blk_cell BK179.out 2).trans rfl
           have hcz37_3 : wr.cell? ⟨gb179, 3, none⟩ = some (.slice A178_3 ((rd_T38 l0_0 x4_1).f3).length c178_3) := (blk_cell BK179.out 3).trans rfl
           have hcz37_4 : wr.cell? ⟨gb179, 4, none⟩ = some (.slice A178_4 ((rd_T38 l0_0 x4_1).f4).length c178_4) := (blk_cell BK179.out 4).trans rfl
           have hfz37_0 := blk_frozen BK179.out 0
           have hfz37_1 := blk_frozen BK179.out 1
           have hfz37_2 := blk_frozen BK179.out 2
           have hfz37_3 := blk_frozen BK179.out 3
           have hfz37_4 := blk_frozen BK179.out 4
           go_wp2
           go_roundg k3
           case measure => have := HK1.out; have := HJ4.out; have := HK3.out; omega
           case rel => exact ⟨(x3_3), (wrap64 (x4_1 + 1)), (by first | rfl | (simp; done) | (simp [*]; done)), (by first | rfl | (simp; done) | (simp [*]; done)), H', ⟨by have := HK1.out; have := HJ4.out; have := HK3.out; omega⟩, ⟨by (with_reducible repeat (first | refine blk_drewN ?_ _ | refine blk_drew ?_ | refine blk_alloc ?_ _)); exact BK177.out⟩, ⟨by repeat (first | (with_reducible first | exact HB.out | apply below_alloc | apply pw_below_drewN | apply below_drew1 | refine below_set ?_ GE177.out | refine below_set ?_ GE179.out) | exact HB.out)⟩⟩
    ·rw [if_neg c4] at H
     exact absurd H (by simp)
   ·rw [if_neg c3] at H
    have c3b0 : decide (x4_1 < (l0_0.length : Int)) = false := decide_eq_false c3
    clear c3
    obtain rfl := Option.some.inj H
    have hcz38_0 : wr.cell? ⟨gb177, 0, none⟩ = some (.slice A0_0 l0_0.length c0_0) := (blk_cell BK177.out 0).trans rfl
    have hcz38_1 : wr.cell? ⟨gb177, 1, none⟩ = some (.int .i64 a0_1) := (blk_cell BK177.out 1).trans rfl
    have hfz38_0 := blk_frozen BK177.out 0
    have hfz38_1 := blk_frozen BK177.out 1
    go_wp2
    go_ret
    exact ⟨by first | rfl | (simp [errW_none, errW_some] <;> rfl) | (simp [*, errW_none, errW_some] <;> rfl), by repeat (first | (with_reducible first | exact HB.out | apply below_alloc | apply pw_below_drewN | apply below_drew1 | refine below_set ?_ GE177.out) | exact HB.out)⟩
end Go.Proofs.Ytgbeliajhccndaa.PP
