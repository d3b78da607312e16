/- ahead (quernlaw2): the walk (chapter 2). -/
import Derived.Test.YteenkeccpfgffaaAC
import Derived.Test.YteenkeccpfgffaaBD
set_option linter.unusedVariables false
set_option linter.unusedSimpArgs false
namespace Go.Proofs.Yteenkeccpfgffaa
open Go.RowKit Go.Proofs.YteenkeccpfgffaaW.PrintWords Go.Proofs.YteenkeccpfgffaaW.PrintLast Go.Proofs.YteenkeccpfgffaaW.PrintMore

theorem reads_take {w : World} {A : Option Addr} {n : Nat} {l : List Int} (h : ReadsInt w .u8 A n l) (p : Nat) (hp : p ≤ n) : ReadsInt w .u8 A p (l.take p) := by
  obtain ⟨h1, h2, h3⟩ := h
  refine ⟨by rw [List.length_take]; omega, by omega, fun h0 => ?_⟩
  obtain ⟨ad, hA, hc⟩ := h3 (by omega)
  refine ⟨ad, hA, fun j hj => ?_⟩
  rw [hc j (by omega)]
  simp [List.getD_eq_getElem?_getD, List.getElem?_take, hj]
theorem byteRange.append {l m : List Int} (h1 : byteRange l) (h2 : byteRange m) : byteRange (l ++ m) := by
  intro i
  unfold rd
  rw [List.getD_eq_getElem?_getD, List.getElem?_append]
  split
  · have := h1 i
    unfold rd at this
    rwa [List.getD_eq_getElem?_getD] at this
  · have := h2 ((i.toNat - l.length : Nat) : Int)
    unfold rd at this
    rwa [List.getD_eq_getElem?_getD, Int.toNat_natCast] at this
theorem byteRange_one {c : Int} (h : 0 ≤ c ∧ c ≤ 255) : byteRange [c] := by
  intro i
  unfold rd
  rcases Nat.eq_zero_or_pos i.toNat with h0 | h0
  · rw [h0]; exact h
  · rw [List.getD_eq_getElem?_getD, List.getElem?_eq_none (by simp only [List.length_singleton]; omega)]
    decide
theorem nl_head (s : List Int) : BHead ([10] ++ s) := .inr (by rw [show [10] ++ s = 10 :: s from rfl, rd_head]; decide)
theorem nl_range : byteRange [10] := byteRange_one (by omega)
set_option maxRecDepth 100000 in
set_option maxHeartbeats 8000000 in
theorem ahead_any (A : Option Addr) (n c : Nat) (l : List Int) (A2 : Option Addr) (n2 c2 : Nat) (l2 : List Int) (AL : Option Addr) (cL base : Nat) (ok : Nat → Prop) (L : List Tok) (p : Nat) (err : Int) (w : World)
    (hnc : n ≤ c) (hr : ReadsInt w .u8 A n l) (hb : byteRange l) (hr2 : ReadsInt w .u8 A2 n2 l2) (hb2 : byteRange l2) (hn : n + n2 ≤ 1048576)
    (hO : kTok.R 33 w base ok (.slice AL L.length cL) L) (hp : p < n) (hlex : lexAll l = (L, (p : Int), err)) (he : err ≠ 0) (hpre : lexAll (l.take p) = (L, 0, 0)) :
    Calls Try.prog 20 #[.slice A n c, .slice AL L.length cL, .int .i64 (p : Int), .int .i64 err, .slice A2 n2 c2] w fun e w' => e = .returned (.bool true) ∧ Below w.heap.size w w' := by
  have HLL := Lib.hid hr.1
  have HLL2 := Lib.hid hr2.1
  have hall : lexAll (l ++ [10] ++ l2) = (L, (p : Int), err) := by
    rw [lexAll_lex] at hlex ⊢
    rw [List.append_assoc, lex_ext (s := [10] ++ l2) (nl_head l2) _ 0 l (Nat.le_refl _) hb (by rw [hlex]; exact he)]
    exact hlex
  have HR := Lib.hid hr
  have HB := Lib.hid hb
  have HR2 := Lib.hid hr2
  have HO := Lib.hid hO
  have HPRE := Lib.hid hpre
  have HALL := Lib.hid hall
  have HBA := Lib.hid ((hb.append nl_range).append hb2)
  clear hr hb hr2 hb2 hO hpre hall hlex
  have htk := take_run A n c p (by omega) hnc
  go_enter Try.func20, Try.ntmps20
  go_wp2_with fail
  refine (tokens_any A p c (l.take p) _ _ _ _ (by omega) (by exact reads_take HR.out p (by omega)) (HB.out.take p) (by omega) HPRE.out).mono ?_
  rintro e w1 ⟨v1, rfl, hO1, hb1⟩
  have HB1 := Lib.hid hb1
  have HOB := Lib.hid (Kd.R_below HO.out hb1)
  obtain ⟨A1, c1, rfl, hC1⟩ := R_same hO1
  have HC1 := Lib.hid hC1
  obtain ⟨AL', cL', hLe, hCL⟩ := R_same HOB.out
  injection hLe with hLe1 _ hLe2
  subst hLe1
  subst hLe2
  have HCL := Lib.hid hCL
  clear hb1 hO1 hC1 hCL htk
  go_wp2_with (first | (go_at_call 18; refine (num_any _ _).mono ?_; rintro e w' ⟨rfl, rfl⟩) | (go_at_call 14; refine (same_yes AL A1 L.length cL c1 L _ (by exact HCL.out) (by exact HC1.out)).mono ?_; rintro e w' ⟨rfl, k4, rfl⟩) | (at_builtin; refine stop_intro ?_))
  unfold Stop
  refine print_append_row (w0 := w) w.heap.size rfl (.const (.slice none 0 0)) (.tmp 39) 22 5 .u8 1 rfl Try.underlying22 info5k (by decide) _ [] l A n c rfl rfl (own_nil _ _ _ _) (by exact reads_heap (HR.out.below HB1.out) rfl) (by exact pw_below_drewN HB1.out k4) (by exact HB1.out.size) ?len ?_
  case len => simp; omega
  intro v6 w6 hO6 hB6 hg6 hat6
  rw [List.nil_append, HLL.out] at hO6
  have HOW6 := Lib.hid hO6
  have HB6 := Lib.hid hB6
  clear hO6 hB6 hg6 hat6
  go_wp2_with (at_builtin; refine stop_intro ?_)
  unfold Stop
  refine print_append_num (w0 := w) w.heap.size rfl (.tmp 40) (.tmp 41) 22 5 .u8 1 rfl Try.underlying22 info5k (by decide) v6 l 10 rfl rfl (by rw [HLL.out]; exact HOW6.out) HB6.out HB6.out.size ?len ?_
  case len => rw [HLL.out]; omega
  intro v7 w7 hO7 hB7 hg7 hat7
  have HOW7 := Lib.hid hO7
  have HB7 := Lib.hid hB7
  clear hO7 hB7 hg7 hat7
  go_wp2_with (at_builtin; refine stop_intro ?_)
  unfold Stop
  refine print_append_row (w0 := w) w.heap.size rfl (.tmp 42) (.tmp 43) 22 5 .u8 1 rfl Try.underlying22 info5k (by decide) v7 (l ++ [10]) l2 A2 n2 c2 rfl rfl HOW7.out (by exact HR2.out.below HB7.out) HB7.out HB7.out.size ?len ?_
  case len => rw [List.length_append, HLL.out]; simp only [List.length_singleton]; omega
  intro v8 w8 hO8 hB8 hg8 hat8
  obtain ⟨A8, c8, rfl, hx8⟩ := own_reads hO8
  have h8c := own_le hO8
  have hl8 : (l ++ [10] ++ l2).length = n + 1 + n2 := by rw [List.length_append, List.length_append, HLL.out, HLL2.out]; rfl
  have HX8 := Lib.hid hx8
  have HB8 := Lib.hid hB8
  clear hO8 hB8 hg8 hat8 hx8
  rw [hl8] at h8c HX8 ⊢
  clear hl8
  go_wp2_with fail
  refine (tokens_any A8 (n + 1 + n2) c8 _ _ _ _ _ h8c (by exact HX8.out) HBA.out (by omega) HALL.out).mono ?_
  rintro e w9 ⟨v9, rfl, hO9, hb9⟩
  have HB9 := Lib.hid (below_then HB8.out HB8.out.size hb9)
  obtain ⟨A9, c9, rfl, hC9⟩ := R_same hO9
  have HC9 := Lib.hid hC9
  obtain ⟨AL', cL', hLe, hCL⟩ := R_same (Kd.R_below HO.out HB9.out)
  injection hLe with hLe1 _ hLe2
  subst hLe1
  subst hLe2
  have HCL := Lib.hid hCL
  clear hb9 hO9 hC9 hCL
  go_wp2_with (go_at_call 14; refine (same_yes A9 AL L.length c9 cL L _ (by exact HC9.out) (by exact HCL.out)).mono ?_; rintro e w' ⟨rfl, k5, rfl⟩)
  go_ret
  exact ⟨rfl, pw_below_drewN HB9.out _⟩
end Go.Proofs.Yteenkeccpfgffaa
