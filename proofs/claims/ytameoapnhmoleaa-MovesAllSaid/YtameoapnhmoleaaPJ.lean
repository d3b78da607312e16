-- Printed by the kit's print.py (turned by patchprint.py, made shorter by squeeze.py, mine). Not trusted: Lean checks it.
import Derived.Test.YtameoapnhmoleaaPV
import Derived.Test.YtameoapnhmoleaaPP1
import Derived.Test.YtameoapnhmoleaaPP3
namespace Go.Proofs.Ytameoapnhmoleaa.PP
open Go.RowKit Go.Proofs.YtameoapnhmoleaaW.PrintWords Go.Proofs.YtameoapnhmoleaaW.PrintLast Go.Proofs.YtameoapnhmoleaaW.PrintMore
attribute [local go_sem] max2_int min2_int max_two min_two max_three min_three max_four min_four   -- for this text's walks alone
set_option linter.unusedVariables false
set_option linter.unusedSimpArgs false
/-! ### quernlaw13_fillMoves: function 29 -/
def quernlaw13_fillMoves.l0 : Nat → List (S36) → Int → Int → Option ((List (S36)))
 | 0, _, _, _ => none
 | k + 1, x0, x1, x4 => if x4 < (x0.length : Int) then (if 0 ≤ x4 then (quernlaw13_fillMoves.l0 k (x0.set (x4 : Int).toNat (⟨(⟨(-9), x1⟩ : S24), (⟨0, 0⟩ : S24)⟩ : S36)) x1 (wrap64 (x4 + 1))) else (none)) else (some x0)
def quernlaw13_fillMoves.f (k : Nat) (l0 : List (S36)) (a1 : Int) : Option ((List (S36))) := quernlaw13_fillMoves.l0 k l0 a1 0
theorem quernlaw13_fillMoves.mono_l : ∀ k, (∀ y0 y1 y2, LeO (quernlaw13_fillMoves.l0 k y0 y1 y2) (quernlaw13_fillMoves.l0 (k + 1) y0 y1 y2))
 | 0 => fun _ _ _ r h => by simp [quernlaw13_fillMoves.l0] at h
 | k + 1 => by
  have ih0 := quernlaw13_fillMoves.mono_l k
  ·intro y0 y1 y2
   unfold quernlaw13_fillMoves.l0
   repeat' first
   | (with_reducible exact ih0 _ _ _)
   | (with_reducible exact LeO.refl _)
   | (with_reducible exact LeO.none _)
   | (with_reducible refine LeO.ite ?_ ?_)
   | (with_reducible refine LeO.bind ?_ (fun _ => ?_))
   | exact ih0 _ _ _
   | exact LeO.none _
   | refine LeO.ite ?_ ?_
   | refine LeO.bind ?_ (fun _ => ?_)
theorem quernlaw13_fillMoves.mono : ∀ a0 a1 k, LeO (quernlaw13_fillMoves.f k a0 a1) (quernlaw13_fillMoves.f (k + 1) a0 a1) := by
 intro a0 a1 k
 have ih0 := quernlaw13_fillMoves.mono_l k
 unfold quernlaw13_fillMoves.f
 repeat' first
   | (with_reducible exact ih0 _ _ _)
   | (with_reducible exact LeO.refl _)
   | (with_reducible exact LeO.none _)
   | (with_reducible refine LeO.ite ?_ ?_)
   | (with_reducible refine LeO.bind ?_ (fun _ => ?_))
   | exact ih0 _ _ _
   | exact LeO.none _
   | refine LeO.ite ?_ ?_
   | refine LeO.bind ?_ (fun _ => ?_)
set_option maxHeartbeats 8000000 in
set_option maxRecDepth 100000 in
theorem quernlaw13_fillMoves.calls (k : Nat) (P0_ : Nat → Prop) (u9000_ : Value) (l0 : List (S36)) (a1 : Int) (r : List (S36)) (w0 w : World) (hB : Below w0.heap.size w0 w) (ho0 : Kd.R k36 36 w w0.heap.size P0_ u9000_ l0) (h : quernlaw13_fillMoves.f k l0 a1 = some r) :
  Calls Try.prog 29 #[u9000_, .int .i64 a1] w fun e w' => e = .returned (.tuple #[]) ∧ Kd.R k36 36 w' w0.heap.size (fun k_ => (P0_ k_ ∨ w.heap.size ≤ k_)) u9000_ r ∧ Below w0.heap.size w0 w' ∧ Kept w w' (fun k_ => P0_ k_) := by
 have hu24 := Try.underlying24
 have hu36 := Try.underlying36
 have HO0 := Aside0.mk (show Kd.R k36 36 w w0.heap.size (fun k_ => (P0_ k_ ∨ w.heap.size ≤ k_)) u9000_ l0 from Kd.R_mono ho0 (fun k_ hk => (.inl hk)))
 have HK := Aside0.mk (Kept.refl w (fun k_ => P0_ k_))
 have HW0 := Aside0.mk hB.size
 have HB := Aside0.mk hB
 clear hB
 have H : (quernlaw13_fillMoves.l0 k l0 a1 0) = some r := h
 clear h
 have H' := Aside0.mk H
 clear H
 go_enter Try.func29, Try.ntmps29
 go_wp2
 go_loopg [4] k (fun kq v4 w' => ∃ (x0_1 : List (S36)) (x4_1 : Int), v4 = .int .i64 x4_1 ∧ Aside0 (quernlaw13_fillMoves.l0 kq x0_1 a1 x4_1 = some r) ∧ Aside0 (kq ≤ k) ∧ Aside0 (Kd.R k36 36 w' w0.heap.size (fun k_ => (P0_ k_ ∨ w.heap.size ≤ k_)) u9000_ x0_1) ∧ Aside0 (Kept w w' (fun k_ => P0_ k_)) ∧ Aside0 (Below w0.heap.size w0 w'))
 case atStart => exact ⟨(l0), (0), (by first | rfl | (simp; done) | (simp [*]; done)), H', ⟨Nat.le_refl _⟩, ⟨by (with_reducible repeat (first | apply Kd.R_alloc | apply Kd.R_drewN | apply Kd.R_drew)); exact HO0.out⟩, ⟨by repeat (first | (with_reducible first | exact HK.out | apply Kept.alloc | apply Kept.drewN | apply Kept.drew) | exact HK.out)⟩, ⟨by repeat (first | (with_reducible first | exact HB.out | apply below_alloc | apply pw_below_drewN | apply below_drew1) | exact HB.out)⟩⟩
 case round =>
  clear H'
  try clear c2
  try clear p2
  obtain ⟨x0_1, x4_1, rfl, HA, HK1, HO_0, HK, HB⟩ := hrel
  cases gk with
  | zero => exact absurd HA.out (by simp [quernlaw13_fillMoves.l0])
  | succ k1 =>
   have H := HA.out
   clear HA
   simp only [quernlaw13_fillMoves.l0] at H
   by_cases c3 : x4_1 < (x0_1.length : Int)
   ·rw [if_pos c3] at H
    have c3b0 : decide (x4_1 < (x0_1.length : Int)) = true := decide_eq_true c3
    clear c3
    by_cases c4 : 0 ≤ x4_1
    ·rw [if_pos c4] at H
     have c4b0 : decide (0 ≤ x4_1) = true := decide_eq_true c4
     clear c4
     obtain ⟨y379, hy379⟩ : ∃ y_ : List (S36), y_ = (x0_1.set (x4_1 : Int).toNat (⟨(⟨(-9), a1⟩ : S24), (⟨0, 0⟩ : S24)⟩ : S36)) := ⟨_, rfl⟩
     replace H : (quernlaw13_fillMoves.l0 k1 y379 a1 (wrap64 (x4_1 + 1))) = some r := by first | (rw [hy379]; with_reducible exact H) | (have H2_ := (Option.bind_some _ _).symm.trans H; rw [hy379]; with_reducible exact H2_) | (have H2_ := (Option.bind_some _ _).symm.trans H; with_reducible exact H2_) | with_reducible exact H | (rw [hy379]; exact H) | exact H
     have Ny379 := Aside0.mk hy379
     clear hy379
     have H' := Aside0.mk H
     clear H
     obtain ⟨Ao6, co6, eo6⟩ := Kd.R_slice HO_0.out
     subst eo6
     have p5 : 0 ≤ (x4_1 : Int) := of_decide_eq_true (by first | (with_reducible assumption) | assumption)
     have q5 : (x4_1 : Int) < ((x0_1.length : Int) : Int) := of_decide_eq_true (by first | (with_reducible assumption) | assumption)
     obtain ⟨go5, co5, eo5, gb5, gl5, cl5, HG5⟩ := Kd.R_form HO_0.out (by omega)
     (first | cases eo5 | (injection eo5 with ea_ en_ ec_; (first | subst ea_ | (injection ea_ with ea_; subst ea_)); subst ec_; clear en_))
     have GB5 := Aside0.mk gb5
     have GG5 := Aside0.mk HG5
     clear gb5 gl5 HG5
     have HMgo5 := Aside0.mk (show (P0_ go5 ∨ w.heap.size ≤ go5) from (HO_0.out.1 _ rfl))
     obtain ⟨ce5, hcl5, hM5, hcc5, hfr5⟩ := Kd.R_elem HO_0.out z36 (x4_1 : Int) p5 q5
     obtain rfl := k36_openM hM5
     have hx5_0 : wr.cell? ⟨go5, (x4_1 : Int).toNat * 4, none⟩ = some (.int .i64 ((rd_T36 x0_1 x4_1).f0.f0)) := hcc5 0 _ rfl
     have hx5_1 : wr.cell? ⟨go5, (x4_1 : Int).toNat * 4 + 1, none⟩ = some (.int .i64 ((rd_T36 x0_1 x4_1).f0.f1)) := hcc5 1 _ rfl
     have hx5_2 : wr.cell? ⟨go5, (x4_1 : Int).toNat * 4 + 2, none⟩ = some (.int .i64 ((rd_T36 x0_1 x4_1).f1.f0)) := hcc5 2 _ rfl
     have hx5_3 : wr.cell? ⟨go5, (x4_1 : Int).toNat * 4 + 3, none⟩ = some (.int .i64 ((rd_T36 x0_1 x4_1).f1.f1)) := hcc5 3 _ rfl
     have hf5_0 : wr.frozen? ⟨go5, (x4_1 : Int).toNat * 4, none⟩ = false := hfr5 0
     have hf5_1 : wr.frozen? ⟨go5, (x4_1 : Int).toNat * 4 + 1, none⟩ = false := hfr5 1
     have hf5_2 : wr.frozen? ⟨go5, (x4_1 : Int).toNat * 4 + 2, none⟩ = false := hfr5 2
     have hf5_3 : wr.frozen? ⟨go5, (x4_1 : Int).toNat * 4 + 3, none⟩ = false := hfr5 3
     clear hcl5 hcc5 hfr5 hM5
     replace p5 := eq_true p5
     replace q5 := eq_true q5
     have HX7 := Aside0.mk (show Kd.R k36 36 wr w0.heap.size (fun k_ => (P0_ k_ ∨ w.heap.size ≤ k_)) (.slice (some ⟨go5, 0, none⟩) x0_1.length co6) x0_1 from (by (with_reducible repeat (first | apply Kd.R_alloc | apply Kd.R_drewN | apply Kd.R_drew)); exact HO_0.out))
     obtain ⟨ce7, hcl7, hM7, hcc7, hfr7⟩ := Kd.R_elem HX7.out z36 (x4_1 : Int) (of_decide_eq_true (by first | (with_reducible assumption) | assumption)) (by have h_ : (x4_1 : Int) < ((x0_1.length : Int) : Int) := of_decide_eq_true (by first | (with_reducible assumption) | assumption); first | exact h_ | (have e_ := (Kd.R_reads' HO_0.out).1; omega) | simpa using h_)
     obtain rfl := k36_openM hM7
     have HP7 := Kd.R_seg HX7.out (x4_1 : Int) (of_decide_eq_true (by first | (with_reducible assumption) | assumption)) (by have h_ : (x4_1 : Int) < ((x0_1.length : Int) : Int) := of_decide_eq_true (by first | (with_reducible assumption) | assumption); first | exact h_ | (have e_ := (Kd.R_reads' HO_0.out).1; omega) | simpa using h_) (seg := [.int .i64 (-9), .int .i64 a1, .int .i64 0, .int .i64 0]) (j := 0) hcl7 hcc7 (show 4 ≤ 4 from by decide) (x' := (⟨(⟨(-9), a1⟩ : S24), (⟨0, 0⟩ : S24)⟩ : S36)) (k36_mkM _ _ _ (⟨(⟨(-9), a1⟩ : S24), (⟨0, 0⟩ : S24)⟩ : S36) ) (fun _ hk => hk)
     have hx7_0 := hcc7 0 _ rfl
     (try simp only [show (k36).sz = 4 from rfl, Nat.mul_one, Nat.add_zero] at hx7_0)
     have hf7_0 := hfr7 0
     (try simp only [show (k36).sz = 4 from rfl, Nat.mul_one, Nat.add_zero] at hf7_0)
     have hx7_1 := hcc7 1 _ rfl
     (try simp only [show (k36).sz = 4 from rfl, Nat.mul_one, Nat.add_zero] at hx7_1)
     have hf7_1 := hfr7 1
     (try simp only [show (k36).sz = 4 from rfl, Nat.mul_one, Nat.add_zero] at hf7_1)
     have hx7_2 := hcc7 2 _ rfl
     (try simp only [show (k36).sz = 4 from rfl, Nat.mul_one, Nat.add_zero] at hx7_2)
     have hf7_2 := hfr7 2
     (try simp only [show (k36).sz = 4 from rfl, Nat.mul_one, Nat.add_zero] at hf7_2)
     have hx7_3 := hcc7 3 _ rfl
     (try simp only [show (k36).sz = 4 from rfl, Nat.mul_one, Nat.add_zero] at hx7_3)
     have hf7_3 := hfr7 3
     (try simp only [show (k36).sz = 4 from rfl, Nat.mul_one, Nat.add_zero] at hf7_3)
     clear hcl7 hcc7 hfr7 hM7
     go_wp2_with (first | ((with_reducible refine gate_store (t := 36) (p := 16) rfl ?_); refine store_event (t := 36) (p := 16) (v := ?vo_w8) (w1 := ((((wr.setCell ⟨go5, (x4_1 : Int).toNat * 4, none⟩ (.int .i64 (-9))).setCell ⟨go5, (x4_1 : Int).toNat * 4 + 1, none⟩ (.int .i64 a1)).setCell ⟨go5, (x4_1 : Int).toNat * 4 + 2, none⟩ (.int .i64 0)).setCell ⟨go5, (x4_1 : Int).toNat * 4 + 3, none⟩ (.int .i64 0))) ?hg ?ho ?hn ?hr ?_; (case ho => rfl); (case hg => rfl); (case hn => rfl); (case hr => first | (go_simp; done) | (go_simp; rfl)); intro w8 hw; have hg : wr.grownBy w8 (some go5) := (by rw [hw]; exact HP7.2); have hp_ : Kd.R k36 36 w8 w0.heap.size (fun k_ => (P0_ k_ ∨ w.heap.size ≤ k_)) (.slice (some ⟨go5, 0, none⟩) x0_1.length co6) y379 := (by rw [hw, Ny379.out]; exact HP7.1); clear HP7; have n0_ := Aside0.mk (hp_); have n1_ := Aside0.mk ((by rw [hw]; exact below_set (below_set (below_set (below_set (HB.out) GB5.out) GB5.out) GB5.out) GB5.out : Below w0.heap.size w0 w8)); have n2_ := Aside0.mk (Kept.of_grown (S := (fun k_ => P0_ k_)) hg (by repeat (first | (with_reducible first | exact HK.out | apply Kept.alloc | apply Kept.drewN | apply Kept.drew) | exact HK.out)) (fun k_ e_ => (HO_0.out.1 k_ e_))); clear HO_0; clear HB; clear HK; have HO_0 := n0_; have HB := n1_; have HK := n2_; clear n0_ n1_ n2_; clear hg hw hp_))
     go_roundg k1
     case measure => have := HK1.out; omega
     case rel => exact ⟨(y379), (wrap64 (x4_1 + 1)), (by first | rfl | (simp; done) | (simp [*]; done)), H', ⟨by have := HK1.out; omega⟩, ⟨by (with_reducible repeat (first | apply Kd.R_alloc | apply Kd.R_drewN | apply Kd.R_drew)); exact HO_0.out⟩, ⟨by repeat (first | (with_reducible first | exact HK.out | apply Kept.alloc | apply Kept.drewN | apply Kept.drew) | exact HK.out)⟩, ⟨by repeat (first | (with_reducible first | exact HB.out | apply below_alloc | apply pw_below_drewN | apply below_drew1) | exact HB.out)⟩⟩
    ·rw [if_neg c4] at H
     exact absurd H (by simp)
   ·rw [if_neg c3] at H
    have c3b0 : decide (x4_1 < (x0_1.length : Int)) = false := decide_eq_false c3
    clear c3
    obtain rfl := Option.some.inj H
    obtain ⟨Ao9, co9, eo9⟩ := Kd.R_slice HO_0.out
    subst eo9
    go_wp2
    first | go_end0 | ((try simp only [Exit.inBlock, Exit.then]); refine bodyPost_ret (results_none rfl _ _ _) rfl ?_)
    exact ⟨by first | rfl | (simp [errW_none, errW_some] <;> rfl) | (simp [*, errW_none, errW_some] <;> rfl), by (with_reducible repeat (first | apply Kd.R_alloc | apply Kd.R_drewN | apply Kd.R_drew)); exact HO_0.out, by repeat (first | (with_reducible first | exact HB.out | apply below_alloc | apply pw_below_drewN | apply below_drew1) | exact HB.out), by repeat (first | (with_reducible first | exact HK.out | apply Kept.alloc | apply Kept.drewN | apply Kept.drew) | exact HK.out)⟩



/-- A state of type 48 at block g of W; what its slices lead to came in by w0. -/
def IsS48 (w0 W : World) (g : Nat) (f0 : Bool) (f1 : List (List (S36))) (f2 : List (List (S36))) (f3 : List Int) : Prop := ∃ A1 c1, ∃ A2 c2, ∃ A3 c3, W.heap[g]? = some (.cells #[.bool f0, .slice A1 f1.length c1, .slice A2 f2.length c2, .slice A3 f3.length c3] 48 (0, 0)) ∧ w0.heap.size ≤ g ∧ Kd.C (Kd.slice 36 k36) w0 A1 f1.length f1 ∧ Kd.C (Kd.slice 36 k36) w0 A2 f2.length f2 ∧ Kd.C (Kd.int .i64) w0 A3 f3.length f3
theorem IsS48.grown {w0 W : World} {g : Nat} {f0 : Bool} {f1 : List (List (S36))} {f2 : List (List (S36))} {f3 : List Int} {W1 : World} {row : Option Nat} (h : IsS48 w0 W g f0 f1 f2 f3) (hw : W.grownBy W1 row) (hne : some g ≠ row) : IsS48 w0 W1 g f0 f1 f2 f3 := by
 obtain ⟨A1, c1, A2, c2, A3, c3, hb, hg, hr1, hr2, hr3⟩ := h
 exact ⟨A1, c1, A2, c2, A3, c3, blk_grown hb hw hne, hg, hr1, hr2, hr3⟩
theorem IsS48.own_neN {w0 W : World} {g : Nat} {f0 : Bool} {f1 : List (List (S36))} {f2 : List (List (S36))} {f3 : List Int} {α : Type} {d : Kd α} {e : Nat} {base : Nat} {ok : Nat → Prop} {v : Value} {xs : List α} (h : IsS48 w0 W g f0 f1 f2 f3) (ho : Kd.N d e W base ok v xs) (ht : e ≠ 48) : some g ≠ v.ownBlock := by
 obtain ⟨A1, c1, A2, c2, A3, c3, hb, hg, hr1, hr2, hr3⟩ := h
 exact Kd.N_ne ho hb ht
theorem IsS48.fresh {w0 W : World} {g : Nat} {f0 : Bool} {f1 : List (List (S36))} {f2 : List (List (S36))} {f3 : List Int} (h : IsS48 w0 W g f0 f1 f2 f3) : ∀ k, W.heap.size ≤ k → k ≠ g := by
 obtain ⟨A1, c1, A2, c2, A3, c3, hb, hg, hr1, hr2, hr3⟩ := h
 exact Kd.freshB hb
theorem IsS48.kept {w0 W : World} {g : Nat} {f0 : Bool} {f1 : List (List (S36))} {f2 : List (List (S36))} {f3 : List Int} {W1 : World} {S : Nat → Prop} (h : IsS48 w0 W g f0 f1 f2 f3) (hk : Kept W W1 S) (hne : ¬ S g) : IsS48 w0 W1 g f0 f1 f2 f3 := by
 obtain ⟨A1, c1, A2, c2, A3, c3, hb, hg, hr1, hr2, hr3⟩ := h
 exact ⟨A1, c1, A2, c2, A3, c3, blk_kept hb hk hne, hg, hr1, hr2, hr3⟩
theorem IsS48.below {w0 W : World} {g : Nat} {f0 : Bool} {f1 : List (List (S36))} {f2 : List (List (S36))} {f3 : List Int} {W1 : World} (h : IsS48 w0 W g f0 f1 f2 f3) (hw : Below W.heap.size W W1) : IsS48 w0 W1 g f0 f1 f2 f3 := h.grown (grown_of_below hw none) (by simp)
theorem IsS48.alloc {w0 W : World} {g : Nat} {f0 : Bool} {f1 : List (List (S36))} {f2 : List (List (S36))} {f3 : List Int} (h : IsS48 w0 W g f0 f1 f2 f3) (o : Obj) : IsS48 w0 (W.alloc o) g f0 f1 f2 f3 := h.below (below_alloc (Below.refl _ _) o)
theorem IsS48.drewN {w0 W : World} {g : Nat} {f0 : Bool} {f1 : List (List (S36))} {f2 : List (List (S36))} {f3 : List Int} (h : IsS48 w0 W g f0 f1 f2 f3) (m : Nat) : IsS48 w0 (W.drewN m) g f0 f1 f2 f3 := h
theorem IsS48.drew {w0 W : World} {g : Nat} {f0 : Bool} {f1 : List (List (S36))} {f2 : List (List (S36))} {f3 : List Int} (h : IsS48 w0 W g f0 f1 f2 f3) : IsS48 w0 W.drew g f0 f1 f2 f3 := h
theorem IsS48.at_ {w0 W : World} {g : Nat} {f0 : Bool} {f1 : List (List (S36))} {f2 : List (List (S36))} {f3 : List Int} {w' : World} {m : Nat} (hq : W.drewN m = w') (h : IsS48 w0 W g f0 f1 f2 f3) : IsS48 w0 w' g f0 f1 f2 f3 := by subst hq; exact IsS48.drewN h m
theorem IsS48.apart {w0 W : World} {g : Nat} {f0 : Bool} {f1 : List (List (S36))} {f2 : List (List (S36))} {f3 : List Int} {α : Type} {d : Kd α} {e : Nat} {base : Nat} {ok : Nat → Prop} {v : Value} {xs : List α} (h : IsS48 w0 W g f0 f1 f2 f3) (ho : d.R e W base ok v xs) (ht : ∀ q, q ∈ e :: d.E → q ≠ 48) : d.R e W base (fun k => ok k ∧ k ≠ g) v xs := by
 obtain ⟨A1, c1, A2, c2, A3, c3, hb, hg, hr1, hr2, hr3⟩ := h
 exact Kd.R_types ho hb ht
theorem IsS48.own_ne {w0 W : World} {g : Nat} {f0 : Bool} {f1 : List (List (S36))} {f2 : List (List (S36))} {f3 : List Int} {α : Type} {d : Kd α} {e : Nat} {base : Nat} {ok : Nat → Prop} {v : Value} {xs : List α} (h : IsS48 w0 W g f0 f1 f2 f3) (ho : d.R e W base ok v xs) (ht : e ≠ 48) : some g ≠ v.ownBlock := by
 obtain ⟨A1, c1, A2, c2, A3, c3, hb, hg, hr1, hr2, hr3⟩ := h
 exact Kd.R_ne ho hb ht
theorem IsS48.apartQ {w0 W : World} {g : Nat} {f0 : Bool} {f1 : List (List (S36))} {f2 : List (List (S36))} {f3 : List Int} {α : Type} {d : Kd α} {e : Nat} {base : Nat} {ok : Nat → Prop} {v : Value} {xs : List α} (h : IsS48 w0 W g f0 f1 f2 f3) (ho : d.Q e W base ok v xs) (ht : ∀ q, q ∈ e :: d.E → q ≠ 48) : d.Q e W base (fun k => ok k ∧ k ≠ g) v xs := by
 obtain ⟨A1, c1, A2, c2, A3, c3, hb, hg, hr1, hr2, hr3⟩ := h
 exact Kd.Q_types ho hb ht
theorem IsS48.own_neQ {w0 W : World} {g : Nat} {f0 : Bool} {f1 : List (List (S36))} {f2 : List (List (S36))} {f3 : List Int} {α : Type} {d : Kd α} {e : Nat} {base : Nat} {ok : Nat → Prop} {v : Value} {xs : List α} (h : IsS48 w0 W g f0 f1 f2 f3) (ho : d.Q e W base ok v xs) (ht : e ≠ 48) : some g ≠ v.ownBlock := by
 obtain ⟨A1, c1, A2, c2, A3, c3, hb, hg, hr1, hr2, hr3⟩ := h
 exact Kd.Q_ne ho hb ht
theorem IsS48.apartS {w0 W : World} {g : Nat} {f0 : Bool} {f1 : List (List (S36))} {f2 : List (List (S36))} {f3 : List Int} {α : Type} {d : Kd α} {e : Nat} {base : Nat} {ok : Nat → Prop} {v : Value} {xs : List α} (h : IsS48 w0 W g f0 f1 f2 f3) (ho : d.S e W base ok v xs) (ht : ∀ q, q ∈ e :: d.E → q ≠ 48) : d.S e W base (fun k => ok k ∧ k ≠ g) v xs := by
 obtain ⟨A1, c1, A2, c2, A3, c3, hb, hg, hr1, hr2, hr3⟩ := h
 exact Kd.S_types ho hb ht
theorem IsS48.own_neS {w0 W : World} {g : Nat} {f0 : Bool} {f1 : List (List (S36))} {f2 : List (List (S36))} {f3 : List Int} {α : Type} {d : Kd α} {e : Nat} {base : Nat} {ok : Nat → Prop} {v : Value} {xs : List α} (h : IsS48 w0 W g f0 f1 f2 f3) (ho : d.S e W base ok v xs) (ht : e ≠ 48) : some g ≠ v.ownBlock := by
 obtain ⟨A1, c1, A2, c2, A3, c3, hb, hg, hr1, hr2, hr3⟩ := h
 exact Kd.S_ne ho hb ht
theorem IsS48.lt {w0 W : World} {g : Nat} {f0 : Bool} {f1 : List (List (S36))} {f2 : List (List (S36))} {f3 : List Int} (h : IsS48 w0 W g f0 f1 f2 f3) : g < W.heap.size := by
 obtain ⟨A1, c1, A2, c2, A3, c3, hb, hg, hr1, hr2, hr3⟩ := h
 exact blk_lt hb
theorem IsS48.ge {w0 W : World} {g : Nat} {f0 : Bool} {f1 : List (List (S36))} {f2 : List (List (S36))} {f3 : List Int} (h : IsS48 w0 W g f0 f1 f2 f3) : w0.heap.size ≤ g := by
 obtain ⟨A1, c1, A2, c2, A3, c3, hb, hg, hr1, hr2, hr3⟩ := h
 exact hg
theorem IsS48.ne_blk {w0 W : World} {g : Nat} {f0 : Bool} {f1 : List (List (S36))} {f2 : List (List (S36))} {f3 : List Int} {a : Nat} {cs : Array Value} {t : TypeId} {fr : Nat × Nat} (h : IsS48 w0 W g f0 f1 f2 f3) (hb2 : W.heap[a]? = some (.cells cs t fr)) (ht : t ≠ 48) : g ≠ a := by
 obtain ⟨A1, c1, A2, c2, A3, c3, hb, hg, hr1, hr2, hr3⟩ := h
 rintro rfl
 rw [hb] at hb2
 injection hb2 with hb2
 injection hb2 with _ ht2
 exact ht ht2.symm
theorem IsS48.far {w0 W : World} {g : Nat} {f0 : Bool} {f1 : List (List (S36))} {f2 : List (List (S36))} {f3 : List Int} {p : Addr} (h : IsS48 w0 W g f0 f1 f2 f3) (hne : g ≠ p.block) (u : Value) : IsS48 w0 (W.setCell p u) g f0 f1 f2 f3 := by
 obtain ⟨A1, c1, A2, c2, A3, c3, hb, hg, hr1, hr2, hr3⟩ := h
 exact ⟨A1, c1, A2, c2, A3, c3, blk_far hb hne u, hg, hr1, hr2, hr3⟩
theorem cellS48_0 {W : World} {g : Nat} {A1 : Option Addr} {c1 : Nat} {A2 : Option Addr} {c2 : Nat} {A3 : Option Addr} {c3 : Nat} {f0 : Bool} {f1 : List (List (S36))} {f2 : List (List (S36))} {f3 : List Int} (h : W.heap[g]? = some (.cells #[.bool f0, .slice A1 f1.length c1, .slice A2 f2.length c2, .slice A3 f3.length c3] 48 (0, 0))) : W.cell? ⟨g, 0, none⟩ = some (.bool f0) := (blk_cell h 0).trans rfl
theorem IsS48.set_0 {w0 W : World} {g : Nat} {f0 : Bool} {f1 : List (List (S36))} {f2 : List (List (S36))} {f3 : List Int} (h : IsS48 w0 W g f0 f1 f2 f3) (x : Bool) : IsS48 w0 (W.setCell ⟨g, 0, none⟩ (.bool x)) g x f1 f2 f3 := by
 obtain ⟨A1, c1, A2, c2, A3, c3, hb, hg, hr1, hr2, hr3⟩ := h
 exact ⟨A1, c1, A2, c2, A3, c3, by simpa using blk_set hb 0 (.bool x), hg, hr1, hr2, hr3⟩
theorem cellS48_1 {W : World} {g : Nat} {A1 : Option Addr} {c1 : Nat} {A2 : Option Addr} {c2 : Nat} {A3 : Option Addr} {c3 : Nat} {f0 : Bool} {f1 : List (List (S36))} {f2 : List (List (S36))} {f3 : List Int} (h : W.heap[g]? = some (.cells #[.bool f0, .slice A1 f1.length c1, .slice A2 f2.length c2, .slice A3 f3.length c3] 48 (0, 0))) : W.cell? ⟨g, 1, none⟩ = some (.slice A1 f1.length c1) := (blk_cell h 1).trans rfl
theorem cellS48_2 {W : World} {g : Nat} {A1 : Option Addr} {c1 : Nat} {A2 : Option Addr} {c2 : Nat} {A3 : Option Addr} {c3 : Nat} {f0 : Bool} {f1 : List (List (S36))} {f2 : List (List (S36))} {f3 : List Int} (h : W.heap[g]? = some (.cells #[.bool f0, .slice A1 f1.length c1, .slice A2 f2.length c2, .slice A3 f3.length c3] 48 (0, 0))) : W.cell? ⟨g, 2, none⟩ = some (.slice A2 f2.length c2) := (blk_cell h 2).trans rfl
theorem cellS48_3 {W : World} {g : Nat} {A1 : Option Addr} {c1 : Nat} {A2 : Option Addr} {c2 : Nat} {A3 : Option Addr} {c3 : Nat} {f0 : Bool} {f1 : List (List (S36))} {f2 : List (List (S36))} {f3 : List Int} (h : W.heap[g]? = some (.cells #[.bool f0, .slice A1 f1.length c1, .slice A2 f2.length c2, .slice A3 f3.length c3] 48 (0, 0))) : W.cell? ⟨g, 3, none⟩ = some (.slice A3 f3.length c3) := (blk_cell h 3).trans rfl
theorem IsS48.new (w0 W : World) (A1 : Option Addr) (c1 : Nat) (A2 : Option Addr) (c2 : Nat) (A3 : Option Addr) (c3 : Nat) (f0 : Bool) (f1 : List (List (S36))) (f2 : List (List (S36))) (f3 : List Int) (hB : Below w0.heap.size w0 W) (hr1 : Kd.C (Kd.slice 36 k36) w0 A1 f1.length f1) (hr2 : Kd.C (Kd.slice 36 k36) w0 A2 f2.length f2) (hr3 : Kd.C (Kd.int .i64) w0 A3 f3.length f3) : IsS48 w0 (W.alloc (.cells #[.bool f0, .slice A1 f1.length c1, .slice A2 f2.length c2, .slice A3 f3.length c3] 48)) W.heap.size f0 f1 f2 f3 := ⟨A1, c1, A2, c2, A3, c3, by simpa using heap_alloc_new W _, hB.size, hr1, hr2, hr3⟩

end Go.Proofs.Ytameoapnhmoleaa.PP
