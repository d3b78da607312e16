/- The walk of lex.reader.sign, one byte (chapter 2). -/
import Derived.Test.YteenkeccpfgffaaH
set_option linter.unusedVariables false
set_option linter.unusedSimpArgs false
namespace Go.Proofs.Yteenkeccpfgffaa
open Go.RowKit Go.Proofs.YteenkeccpfgffaaW.PrintWords Go.Proofs.YteenkeccpfgffaaW.PrintLast Go.Proofs.YteenkeccpfgffaaW.PrintMore

theorem below_row {w w1 : World} {g : Nat} {o : Obj} (h : w.heap[g]? = some o) (hb : Below w.heap.size w w1) : w1.heap[g]? = some o := (hb.block g (Array.getElem?_eq_some_iff.1 h).1).trans h
theorem row_cell {w : World} {g : Nat} {x0 x1 x2 x3 : Value} {t : TypeId} (h : w.heap[g]? = some (.cells #[x0, x1, x2, x3] t (0, 0))) :
    w.cell? ⟨g, 0, none⟩ = some x0 ∧ w.cell? ⟨g, 1, none⟩ = some x1 ∧ w.cell? ⟨g, 2, none⟩ = some x2 ∧ w.cell? ⟨g, 3, none⟩ = some x3 ∧ ∀ j, w.frozen? ⟨g, j, none⟩ = false := by
  refine ⟨?_, ?_, ?_, ?_, fun j => ?_⟩ <;> simp [World.cell?, World.frozen?, h]
theorem grown_any {w w1 : World} (h : w.grownBy w1 none) (row : Option Nat) : w.grownBy w1 row := ⟨h.os, h.tape, h.output, h.size, fun k hk _ => h.block k hk (by simp)⟩
def SignPost (w' : World) (B : Nat) (A : Option Addr) (n c p : Nat) (k : Int) (e : Ending) : Prop :=
  if k = 0 then e = .returned (.tuple #[.agg Tok.nil.cells, .int .i64 20]) ∧ RS w' B A n c p
  else e = .returned (.tuple #[.agg (Tok.mk k p 0 ⟨#[]⟩).cells, .int .i64 0]) ∧ RS w' B A n c (p + 1)
set_option maxHeartbeats 2000000 in
theorem sign_one (B : Nat) (A : Option Addr) (n c p : Nat) (l : List Int) (w : World) (k cv : Int) (hs : RS w B A n c p) (hp : p < n) (hnc : n ≤ c) (hr : ReadsInt w .u8 A n l) (hcv : rd l p = cv) (hk2 : p + 1 < n → twoK (strOfNums ((l.drop p).take 2)) = 0) (hk : oneK cv = k) :
    Calls Try.prog 35 #[.pointer (some ⟨B, 0, none⟩)] w fun e w' => SignPost w' B A n c p k e ∧ w.grownBy w' (some B) := by
  have hn := hr.2.1
  have HK := Lib.hid hk
  have HR := Lib.hid hr
  have HS := Lib.hid hs
  have hltB := hs.lt
  have hne1 : B ≠ w.heap.size := by omega
  have hne2 : B ≠ w.heap.size + 1 := by omega
  have c0 := hs.c0
  have c1 := hs.c1
  have f1 := hs.f1
  have hp' : p ≤ n := by omega
  obtain ⟨ad, hA, hcell⟩ := hr.at_ (p : Int) (by omega) (by omega)
  obtain rfl := hA
  rw [Int.toNat_natCast, hcv] at hcell
  clear hr hs hk hcv
  have hcase : (p + 1 < n ∧ twoK (strOfNums ((l.drop p).take 2)) = 0) ∨ n ≤ p + 1 := by
    rcases Nat.lt_or_ge (p + 1) n with h | h
    · exact .inl ⟨h, hk2 h⟩
    · exact .inr h
  clear hk2
  rcases hcase with ⟨hp2, hk2⟩ | hp2
  · have h2 : 2 ≤ n - p := by omega
    have HK2 := Lib.hid hk2
    clear hk2
    go_enter Try.func35, Try.ntmps35
    go_wp2_with (first | (go_at_call 32; (with_reducible refine (rest_cutN B (some ad) n c p 2 l _ _ (by exact (HS.out.alloc _).alloc _) (by exact reads_alloc (reads_alloc HR.out _) _) hp' hnc h2).mono ?_); rintro e w' ⟨A2, nq2, rfl, rfl, hsl, hcv, hcw, hcu, HX⟩) | (go_at_call 32; refine (rest_cut B (some ad) n c p 2 l _ (by exact (HS.out.alloc _).alloc _) (by exact reads_alloc (reads_alloc HR.out _) _) hp' hnc h2).mono ?_; rintro e w' ⟨A2, nq2, rfl, rfl, hsl, hcv, hcw, hcu, HX⟩) | (go_at_call 44; refine (two_any _ _).mono ?_; rw [HK2.out]; rintro e w' ⟨rfl, rfl⟩))
    generalize hW : (((w.alloc (.cells #[.int .i64 0, .int .i64 0, .int .i64 0, .string ⟨#[]⟩] 33)).alloc (.cells #[.int .i64 0, .int .i64 (p : Int), .int .i64 0, .string ⟨#[]⟩] 33)).drewN nq2).setCell ⟨w.heap.size + 1, 0, none⟩ (.int .i64 0) = W
    have hG : w.grownBy W none := by rw [← hW]; exact grown_new (grown_draw (grown_alloc (grown_alloc (grown_refl w none) _) _) _) (Nat.le_succ _) _ _
    have hs2 : RS W B (some ad) n c p := HS.out.grown hG (by simp)
    have hR : W.heap[w.heap.size]? = some (Obj.cells #[.int .i64 0, .int .i64 0, .int .i64 0, .string ⟨#[]⟩] 33 (0, 0)) := by rw [← hW]; exact far_row (heap_alloc2_old w _ _) (by omega)
    have hT : W.heap[w.heap.size + 1]? = some (Obj.cells #[.int .i64 0, .int .i64 (p : Int), .int .i64 0, .string ⟨#[]⟩] 33 (0, 0)) := by rw [← hW]; exact heap_setCell_same _ _ _ _ _ _ (heap_alloc2_new w _ _)
    clear hW
    have hcell2 := hG.cell hcell (by simp)
    have d0 := hs2.c0
    have d1 := hs2.c1
    have HS2 := Lib.hid hs2
    have HG := Lib.hid hG
    have HRR := Lib.hid hR
    have HTT := Lib.hid hT
    clear hG hs2 hR hT c0 c1 f1 hcell
    go_cut [5] (fun t w1 => t = .int .i64 1 ∧ Hid (RS w1 B (some ad) n c p) ∧ Hid (w1.heap[w.heap.size]? = some (Obj.cells #[.int .i64 0, .int .i64 0, .int .i64 0, .string ⟨#[]⟩] 33 (0, 0))) ∧ Hid (w1.heap[w.heap.size + 1]? = some (Obj.cells #[.int .i64 k, .int .i64 (p : Int), .int .i64 0, .string ⟨#[]⟩] 33 (0, 0))) ∧ Hid (w.grownBy w1 none))
    case first =>
      go_region_with (go_at_call 45; refine (one_any cv _).mono ?_; rw [HK.out]; rintro e w' ⟨rfl, hb1⟩; have t0 := row_cell (below_row (by exact HTT.out) hb1); have HT1 := Lib.hid (below_row (by exact HTT.out) hb1))
      all_goals
        go_wp2_with fail
        go_meet
        exact ⟨rfl, Lib.hid (((RS.below (by exact HS2.out) hb1)).far hne2 _ _), Lib.hid (far_row (below_row (by exact HRR.out) hb1) (by omega)), Lib.hid (heap_setCell_same _ _ _ _ _ _ HT1.out), Lib.hid (grown_new (grown_below (by exact grown_draw HG.out 1) hb1) (Nat.le_succ _) _ _)⟩
    case rest =>
      obtain ⟨rfl, HS3, HR3, HT3, HG3⟩ := hcut
      have t0 := row_cell HT3.out
      have r0 := row_cell HR3.out
      have e1 := HS3.out.c1
      have ef := HS3.out.f1
      have hgb := grown_any HG3.out (some B)
      by_cases hk0 : k = 0
      · subst hk0
        have hkb : ((0 : Int) == 0) = true := rfl
        go_wp2
        refine bodyPost_ret (v := .tuple #[.agg Tok.nil.cells, .int .i64 20]) (by exact tok_results Try.results35 rfl rfl (four_row HR3.out) rfl) rfl ⟨?_, ?_⟩
        · unfold SignPost
          rw [if_pos rfl]
          exact ⟨rfl, (((HS3.out.far hne1 _ _).far hne1 _ _).far hne1 _ _).far hne1 _ _⟩
        · exact grown_new (grown_new (grown_new (grown_new hgb (Nat.le_refl _) _ _) (Nat.le_refl _) _ _) (Nat.le_refl _) _ _) (Nat.le_refl _) _ _
      · have hkb : (k == 0) = false := by simpa using hk0
        have HK0 := Lib.hid hk0
        clear hk0
        go_wp2
        refine bodyPost_ret (v := .tuple #[.agg (Tok.mk k p 0 ⟨#[]⟩).cells, .int .i64 0]) (by exact tok_results Try.results35 rfl rfl (four_row (far_row HR3.out (Ne.symm hne1))) rfl) rfl ⟨?_, ?_⟩
        · unfold SignPost
          rw [if_neg HK0.out]
          exact ⟨rfl, ((((HS3.out.set (p + 1)).far hne1 _ _).far hne1 _ _).far hne1 _ _).far hne1 _ _⟩
        · exact grown_new (grown_new (grown_new (grown_new (grown_row hgb _ _) (Nat.le_refl _) _ _) (Nat.le_refl _) _ _) (Nat.le_refl _) _ _) (Nat.le_refl _) _ _
  · have h2 : 0 ≤ n - p := by omega
    go_enter Try.func35, Try.ntmps35
    go_wp2_with (first | (go_at_call 32; refine (rest_cut B (some ad) n c p 0 l _ (by exact (HS.out.alloc _).alloc _) (by exact reads_alloc (reads_alloc HR.out _) _) hp' hnc h2).mono ?_; rintro e w' ⟨A2, nq2, rfl, rfl, hsl, hcv, hcw, hcu, HX⟩))
    generalize hW : ((w.alloc (.cells #[.int .i64 0, .int .i64 0, .int .i64 0, .string ⟨#[]⟩] 33)).alloc (.cells #[.int .i64 0, .int .i64 (p : Int), .int .i64 0, .string ⟨#[]⟩] 33)).drewN nq2 = W
    have hG : w.grownBy W none := by rw [← hW]; exact grown_draw (grown_alloc (grown_alloc (grown_refl w none) _) _) _
    have hs2 : RS W B (some ad) n c p := HS.out.grown hG (by simp)
    have hR : W.heap[w.heap.size]? = some (Obj.cells #[.int .i64 0, .int .i64 0, .int .i64 0, .string ⟨#[]⟩] 33 (0, 0)) := by rw [← hW]; exact heap_alloc2_old w _ _
    have hT : W.heap[w.heap.size + 1]? = some (Obj.cells #[.int .i64 0, .int .i64 (p : Int), .int .i64 0, .string ⟨#[]⟩] 33 (0, 0)) := by rw [← hW]; exact heap_alloc2_new w _ _
    clear hW
    have hcell2 := hG.cell hcell (by simp)
    have d0 := hs2.c0
    have d1 := hs2.c1
    have HS2 := Lib.hid hs2
    have HG := Lib.hid hG
    have HRR := Lib.hid hR
    have HTT := Lib.hid hT
    clear hG hs2 hR hT c0 c1 f1 hcell
    go_cut [5] (fun t w1 => t = .int .i64 1 ∧ Hid (RS w1 B (some ad) n c p) ∧ Hid (w1.heap[w.heap.size]? = some (Obj.cells #[.int .i64 0, .int .i64 0, .int .i64 0, .string ⟨#[]⟩] 33 (0, 0))) ∧ Hid (w1.heap[w.heap.size + 1]? = some (Obj.cells #[.int .i64 k, .int .i64 (p : Int), .int .i64 0, .string ⟨#[]⟩] 33 (0, 0))) ∧ Hid (w.grownBy w1 none))
    case first =>
      go_region_with (go_at_call 45; refine (one_any cv _).mono ?_; rw [HK.out]; rintro e w' ⟨rfl, hb1⟩; have t0 := row_cell (below_row (by exact HTT.out) hb1); have HT1 := Lib.hid (below_row (by exact HTT.out) hb1))
      all_goals
        go_wp2_with fail
        go_meet
        exact ⟨rfl, Lib.hid (((RS.below (by exact HS2.out) hb1)).far hne2 _ _), Lib.hid (far_row (below_row (by exact HRR.out) hb1) (by omega)), Lib.hid (heap_setCell_same _ _ _ _ _ _ HT1.out), Lib.hid (grown_new (grown_below (by exact grown_draw HG.out 1) hb1) (Nat.le_succ _) _ _)⟩
    case rest =>
      obtain ⟨rfl, HS3, HR3, HT3, HG3⟩ := hcut
      have t0 := row_cell HT3.out
      have r0 := row_cell HR3.out
      have e1 := HS3.out.c1
      have ef := HS3.out.f1
      have hgb := grown_any HG3.out (some B)
      by_cases hk0 : k = 0
      · subst hk0
        have hkb : ((0 : Int) == 0) = true := rfl
        go_wp2
        refine bodyPost_ret (v := .tuple #[.agg Tok.nil.cells, .int .i64 20]) (by exact tok_results Try.results35 rfl rfl (four_row HR3.out) rfl) rfl ⟨?_, ?_⟩
        · unfold SignPost
          rw [if_pos rfl]
          exact ⟨rfl, (((HS3.out.far hne1 _ _).far hne1 _ _).far hne1 _ _).far hne1 _ _⟩
        · exact grown_new (grown_new (grown_new (grown_new hgb (Nat.le_refl _) _ _) (Nat.le_refl _) _ _) (Nat.le_refl _) _ _) (Nat.le_refl _) _ _
      · have hkb : (k == 0) = false := by simpa using hk0
        have HK0 := Lib.hid hk0
        clear hk0
        go_wp2
        refine bodyPost_ret (v := .tuple #[.agg (Tok.mk k p 0 ⟨#[]⟩).cells, .int .i64 0]) (by exact tok_results Try.results35 rfl rfl (four_row (far_row HR3.out (Ne.symm hne1))) rfl) rfl ⟨?_, ?_⟩
        · unfold SignPost
          rw [if_neg HK0.out]
          exact ⟨rfl, ((((HS3.out.set (p + 1)).far hne1 _ _).far hne1 _ _).far hne1 _ _).far hne1 _ _⟩
        · exact grown_new (grown_new (grown_new (grown_new (grown_row hgb _ _) (Nat.le_refl _) _ _) (Nat.le_refl _) _ _) (Nat.le_refl _) _ _) (Nat.le_refl _) _ _
end Go.Proofs.Yteenkeccpfgffaa
