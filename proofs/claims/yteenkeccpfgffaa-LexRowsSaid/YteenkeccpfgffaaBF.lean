/- LexAhead: the walk (chapter 2). -/
import Derived.Test.YteenkeccpfgffaaBE
set_option linter.unusedVariables false
set_option linter.unusedSimpArgs false
namespace Go.Proofs.Yteenkeccpfgffaa
open Go.RowKit Go.Proofs.YteenkeccpfgffaaW.PrintWords Go.Proofs.YteenkeccpfgffaaW.PrintLast Go.Proofs.YteenkeccpfgffaaW.PrintMore

theorem info33s : ∃ i, Try.prog.info? 33 = some i ∧ i.size = 4 := by
  obtain ⟨i, hi, h⟩ := Option.map_eq_some_iff.1 info33
  exact ⟨i, hi, (Prod.mk.inj (Prod.mk.inj h).2).1⟩
theorem take_toks (A : Option Addr) (K c n : Nat) (hn : n ≤ K) (hc : K ≤ c) : ∀ W : World, (Instr.slice 28 (.slice A K c) none (some (.int .i64 (n : Int))) none).run Try.prog W = .ok (.slice A n c) W := by
  intro W
  obtain ⟨i5, hi5, hs5⟩ := info33s
  have hel : Try.prog.elem 28 = 33 := by simp [Program.elem, Try.underlying28]
  have hu : Try.prog.underlying 28 = some (.slice (Try.prog.elem 28)) := by rw [hel]; exact Try.underlying28
  have ha : (A.map fun x => x.add 0) = A := by cases A <;> simp [Addr.add]
  rw [run_slice_h W 28 A K c hu .i64 (n : Int) (by omega) (by omega), hel]
  simp [sizeOf, typeInfo, hi5, hs5, sliced, Result.andThen, ha]
theorem R_cap {w : World} {A : Option Addr} {n c : Nat} {base e : Nat} {ok : Nat → Prop} {xs : List Tok} (h : kTok.R e w base ok (.slice A n c) xs) : n ≤ c := by
  obtain ⟨_, inner, ho, _⟩ := h
  rcases ho.2 with ⟨hv, h0⟩ | ⟨g', cap', cur, hv, hb, hh, hnc, _⟩
  · injection hv with _ h1 h2
    omega
  · injection hv with _ h1 h2
    omega
set_option maxRecDepth 100000 in
set_option maxHeartbeats 8000000 in
theorem lexAhead_any (A : Option Addr) (n c : Nat) (l : List Int) (A2 : Option Addr) (n2 c2 : Nat) (l2 : List Int) (w : World)
    (hnc : n ≤ c) (hr : ReadsInt w .u8 A n l) (hb : byteRange l) (hm : n ≤ 4611686018427387903) (hr2 : ReadsInt w .u8 A2 n2 l2) (hb2 : byteRange l2) (hm2 : n2 ≤ 4611686018427387903) :
    Calls Try.prog 8 #[.slice A n c, .slice A2 n2 c2] w fun e w' => e = .returned (.bool true) ∧ Below w.heap.size w w' := by
  by_cases hbig : n + n2 ≤ 1048576
  · obtain ⟨out, place, err, hlex⟩ := lex_ex l
    have HLL := Lib.hid hr.1
    have HLL2 := Lib.hid hr2.1
    have hcase : (err ≠ 0 ∧ ∃ p : Nat, place = (p : Int) ∧ p < n ∧ lexAll (l.take p) = (out, 0, 0) ∧ (err = 20 ∨ err = 21 ∨ err = 22)) ∨ (err = 0 ∧ ∃ r pl er, lexAll (l ++ [10] ++ l2) = (out ++ r, pl, er)) := by
      have hx := hlex
      rw [lexAll_lex] at hx
      by_cases he : err = 0
      · refine .inr ⟨he, ?_⟩
        obtain ⟨r, hr⟩ := lex_pre (s := [10] ++ l2) (nl_head l2) _ 0 l (Nat.le_refl _) hb
        rw [hx] at hr
        refine ⟨r, (lex 0 (l ++ ([10] ++ l2))).2.1, (lex 0 (l ++ ([10] ++ l2))).2.2, ?_⟩
        rw [lexAll_lex, List.append_assoc, ← hr]
      · refine .inl ⟨he, ?_⟩
        obtain ⟨p, h1, h2, h3, h4⟩ := lex_take _ 0 l (Nat.le_refl _) hb (by rw [hx]; exact he)
        rw [hx] at h1 h3 h4
        refine ⟨p, by rw [show place = ((0 + p : Nat) : Int) from h1, Nat.zero_add], by rw [← hr.1]; exact h2, by rw [lexAll_lex]; exact h3, h4⟩
    have HR := Lib.hid hr
    have HB := Lib.hid hb
    have HR2 := Lib.hid hr2
    have HB2 := Lib.hid hb2
    have HLEX := Lib.hid hlex
    have HCASE := Lib.hid hcase
    clear hr hb hr2 hb2 hlex hcase
    go_enter Try.func8, Try.ntmps8
    go_wp2_with (go_at_call 11; refine (alive_any _).mono ?_; rintro e w1 ⟨rfl, hb1⟩; have HB1 := Lib.hid hb1; clear hb1)
    refine (tokens_any A n c l _ _ _ _ hnc (by exact HR.out.below HB1.out) HB.out (by omega) HLEX.out).mono ?_
    rintro e w3 ⟨v3, rfl, hO3, hb3⟩
    have HB3 := Lib.hid (below_then HB1.out HB1.out.size hb3)
    obtain ⟨A3, c3, rfl, _⟩ := R_same hO3
    have h3c := R_cap hO3
    have HO3 := Lib.hid hO3
    clear hb3 hO3
    rcases HCASE.out with ⟨he, p, rfl, hp, hpre, her⟩ | ⟨rfl, r, pl, er, hall⟩
    · have HPRE := Lib.hid hpre
      clear hpre
      clear HCASE
      rcases her with rfl | rfl | rfl <;>
      · go_wp2_with (first | (go_at_call 18; refine (num_any _ _).mono ?_; rintro e w' ⟨rfl, rfl⟩) | (go_at_call 20; refine (ahead_any A n c l A2 n2 c2 l2 A3 c3 _ _ out p _ _ hnc (by exact HR.out.below HB3.out) HB.out (by exact HR2.out.below HB3.out) HB2.out hbig (by exact HO3.out) hp HLEX.out he HPRE.out).mono ?_; rintro e w' ⟨rfl, hb4⟩; have HB4 := Lib.hid (below_then HB3.out HB3.out.size hb4); clear hb4))
        go_ret
        exact ⟨rfl, HB4.out⟩
    · have HALL := Lib.hid hall
      have HBA := Lib.hid ((HB.out.append nl_range).append HB2.out)
      clear hall
      clear HCASE
      go_wp2_with (first | (go_at_call 18; refine (num_any _ _).mono ?_; rintro e w' ⟨rfl, rfl⟩) | (at_builtin; refine stop_intro ?_))
      unfold Stop
      refine print_append_row (w0 := w3) w3.heap.size rfl (.const (.slice none 0 0)) (.tmp 67) 22 5 .u8 1 rfl Try.underlying22 info5k (by decide) _ [] l A n c rfl rfl (own_nil _ _ _ _) (by exact HR.out.below HB3.out) (Below.refl _ _) (Nat.le_refl _) ?len ?_
      case len => simp; omega
      intro v6 w6 hO6 hB6 hg6 hat6
      rw [List.nil_append, HLL.out] at hO6
      have HOW6 := Lib.hid hO6
      have HB6 := Lib.hid hB6
      clear hO6 hB6 hg6 hat6
      go_wp2_with (at_builtin; refine stop_intro ?_)
      unfold Stop
      refine print_append_num (w0 := w3) w3.heap.size rfl (.tmp 68) (.tmp 69) 22 5 .u8 1 rfl Try.underlying22 info5k (by decide) v6 l 10 rfl rfl (by rw [HLL.out]; exact HOW6.out) HB6.out HB6.out.size ?len ?_
      case len => rw [HLL.out]; omega
      intro v7 w7 hO7 hB7 hg7 hat7
      have HOW7 := Lib.hid hO7
      have HB7 := Lib.hid hB7
      clear hO7 hB7 hg7 hat7
      go_wp2_with (at_builtin; refine stop_intro ?_)
      unfold Stop
      refine print_append_row (w0 := w3) w3.heap.size rfl (.tmp 70) (.tmp 71) 22 5 .u8 1 rfl Try.underlying22 info5k (by decide) v7 (l ++ [10]) l2 A2 n2 c2 rfl rfl HOW7.out (by exact (HR2.out.below HB3.out).below HB7.out) HB7.out HB7.out.size ?len ?_
      case len => rw [List.length_append, HLL.out]; simp only [List.length_singleton]; omega
      intro v8 w8 hO8 hB8 hg8 hat8
      obtain ⟨A8, c8, rfl, hx8⟩ := own_reads hO8
      have h8c := own_le hO8
      have hl8 : (l ++ [10] ++ l2).length = n + 1 + n2 := by rw [List.length_append, List.length_append, HLL.out, HLL2.out]; rfl
      have HX8 := Lib.hid hx8
      have HB8 := Lib.hid hB8
      clear hO8 hB8 hg8 hat8 hx8
      rw [hl8] at h8c HX8 ⊢
      clear hl8
      go_wp2_with fail
      refine (tokens_any A8 (n + 1 + n2) c8 _ _ _ _ _ h8c (by exact HX8.out) HBA.out (by omega) HALL.out).mono ?_
      rintro e w9 ⟨v9, rfl, hO9, hb9⟩
      have HB9 := Lib.hid (below_then HB8.out HB8.out.size hb9)
      obtain ⟨A9, c9, rfl, hC9⟩ := R_same hO9
      have h9c := R_cap hO9
      have HC9 := Lib.hid hC9
      obtain ⟨AL', cL', hLe, hCL⟩ := R_same (Kd.R_below HO3.out HB9.out)
      injection hLe with hLe1 _ hLe2
      subst hLe1
      subst hLe2
      have HCL := Lib.hid hCL
      have hle : out.length ≤ (out ++ r).length := by rw [List.length_append]; omega
      have htk := take_toks A9 (out ++ r).length c9 out.length hle h9c
      have HC9b := Lib.hid (Kd.C_take HC9.out hle)
      have hte : (out ++ r).take out.length = out := List.take_left
      rw [hte] at HC9b
      clear hb9 hO9 hC9 hCL hte
      generalize (out ++ r).length = N at *
      have HB93 := Lib.hid (below_then HB3.out HB3.out.size HB9.out)
      go_wp2_with (go_at_call 14; refine (same_yes A9 A3 out.length c9 c3 out _ (by exact HC9b.out) (by exact HCL.out)).mono ?_; rintro e w' ⟨rfl, k5, rfl⟩)
      go_ret
      exact ⟨rfl, pw_below_drewN HB93.out _⟩
  · go_enter Try.func8, Try.ntmps8
    go_wp2
    go_ret
    exact ⟨rfl, Below.refl _ _⟩
end Go.Proofs.Yteenkeccpfgffaa
