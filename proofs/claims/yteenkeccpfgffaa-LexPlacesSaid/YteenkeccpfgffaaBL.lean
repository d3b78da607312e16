/- LexPlaces: the walk (chapter 2). -/
import Derived.Test.YteenkeccpfgffaaBK
set_option linter.unusedVariables false
set_option linter.unusedSimpArgs false
namespace Go.Proofs.Yteenkeccpfgffaa
open Go.RowKit Go.Proofs.YteenkeccpfgffaaW.PrintWords Go.Proofs.YteenkeccpfgffaaW.PrintLast Go.Proofs.YteenkeccpfgffaaW.PrintMore

theorem lex_zero : ∀ (m o : Nat) (t : List Int), t.length ≤ m → byteRange t → (lex o t).2.2 = 0 → (lex o t).2.1 = 0 := by
  intro m
  induction m with
  | zero =>
    intro o t ht
    obtain rfl : t = [] := List.eq_nil_of_length_eq_zero (by omega)
    intro _ h
    rw [lx_end (o := o) (k := 0) rfl (by simp)]
  | succ m ih =>
    intro o t ht hb h
    rcases lx_form t hb with ⟨k, h1, hk⟩ | ⟨k, h1, hk⟩ | ⟨g, u, x, e, n, rfl, hg, hne, hbu, hsk, hS, he⟩ | ⟨g, u, x, n, rfl, hg, hne, hbu, hsk, hS, hn, hu⟩
    · rw [lx_bad h1] at h
      simp at h
    · rw [lx_end h1 hk]
    · rw [lx_fail hg hne hsk hS he] at h
      exact absurd h he
    · have e1 : g ++ u = g ++ (u.take n ++ u.drop n) := by rw [← cut_u]
      rw [e1, lx_step hg hne hbu hsk hS after_drop] at h ⊢
      rw [List.length_append] at ht
      exact ih _ (u.drop n) (by rw [List.length_drop]; omega) (hbu.drop n) h
/-- The answer's last two parts: no fault, or one in the text. -/
theorem lex_ends {l : List Int} (hb : byteRange l) {out : List Tok} {place err : Int} (h : lexAll l = (out, place, err)) : (err = 0 ∧ place = 0) ∨ (∃ q : Nat, place = (q : Int) ∧ q < l.length ∧ (err = 20 ∨ err = 21 ∨ err = 22)) := by
  rw [lexAll_lex] at h
  by_cases he : err = 0
  · have := lex_zero _ 0 l (Nat.le_refl _) hb (by rw [h]; exact he)
    rw [h] at this
    exact .inl ⟨he, this⟩
  · obtain ⟨q, h1, h2, _, h4⟩ := lex_take _ 0 l (Nat.le_refl _) hb (by rw [h]; exact he)
    rw [h] at h1 h4
    exact .inr ⟨q, by rw [show place = ((0 + q : Nat) : Int) from h1, Nat.zero_add], h2, h4⟩
def EndIs (out : List Tok) (j lo : Nat) : Prop := (j = 0 ∧ lo = 0) ∨ ∃ i q : Nat, j = i + 1 ∧ (out.getD i Tok.nil).at_ = (q : Int) ∧ lo = q + tokLen (out.getD i Tok.nil)
theorem end_at {T : List Int} {place err : Int} {out : List Tok} {j lo : Nat} (h : Placed T place err 0 out) (he : EndIs out j lo) (hj : j < out.length) : ∃ p : Nat, PlacedTok T place err lo (out.getD j Tok.nil) p := by
  obtain ⟨p, lo', h1, h2, h3⟩ := placed_at out 0 h j hj
  refine ⟨p, ?_⟩
  rcases he with ⟨rfl, rfl⟩ | ⟨i, q, rfl, h4, rfl⟩
  · rw [h2 rfl] at h1
    exact h1
  · obtain ⟨q2, h5, h6⟩ := h3 i rfl
    have : q2 = q := by
      have := h5.symm.trans h4
      omega
    subst this
    rw [h6] at h1
    exact h1
attribute [local go_sem high] eqA33
set_option maxRecDepth 100000 in
set_option maxHeartbeats 16000000 in
theorem lexPlaces_any (A : Option Addr) (n c : Nat) (l : List Int) (w : World) (hnc : n ≤ c) (hr : ReadsInt w .u8 A n l) (hb : byteRange l) :
    Calls Try.prog 7 #[.slice A n c] w fun e w' => e = .returned (.bool true) ∧ Below w.heap.size w w' := by
  by_cases hbig : n ≤ 1048576
  · obtain ⟨out, place, err, hlex⟩ := lex_ex l
    have hends := lex_ends hb hlex
    rw [hr.1] at hends
    have HPL := Lib.hid (lex_placed hb hlex)
    have HLL := Lib.hid hr.1
    have HR := Lib.hid hr
    have HB := Lib.hid hb
    have HLEX := Lib.hid hlex
    clear hr hb hlex
    have hq0 : (0 : Nat) ≤ n := Nat.zero_le _
    rcases hends with ⟨rfl, rfl⟩ | ⟨q, rfl, hq, her⟩
    rotate_left
    have hep1 : 20 ≤ err := by omega
    have hep2 : err ≤ 22 := by omega
    have hen : (err == 0) = false := by simp; omega
    have hen0 : ¬ err = 0 := by omega
    clear her
    rotate_left
    all_goals
      go_enter Try.func7, Try.ntmps7
      go_wp2_with fail
      refine (tokens_any A n c l _ _ _ _ hnc (by exact HR.out) HB.out (by omega) HLEX.out).mono ?_
      rintro e w3 ⟨v3, rfl, hO3, hb3⟩
      have HB3 := Lib.hid hb3
      obtain ⟨A3, c3, rfl, hC3⟩ := R_same hO3
      have hN := hC3.2.1
      have HC3 := Lib.hid hC3
      clear hb3 hO3 hC3
      go_wp2_with (first | (go_at_call 11; refine (alive_any _).mono ?_; rintro e w4 ⟨rfl, hb4⟩; have HB4 := Lib.hid (below_then HB3.out HB3.out.size hb4); have HC4 := Lib.hid (Kd.C_below HC3.out hb4); clear hb4) | (go_at_call 18; refine (num_any _ _).mono ?_; rintro e w' ⟨rfl, rfl⟩))

      go_loopw [6, 7] (fun ev i wr => ∃ j lo : Nat, j ≤ out.length ∧ lo ≤ n ∧ i = .int .i64 j ∧ ev = .int .i64 lo ∧ Hid (EndIs out j lo) ∧ Hid (Below w4.heap.size w4 wr)) (fun _ i _ => out.length - (intOf i).toNat)
      case atStart => exact ⟨0, 0, by omega, by omega, rfl, rfl, Lib.hid (.inl ⟨rfl, rfl⟩), Lib.hid (Below.refl _ _)⟩
      case round =>
        obtain ⟨j, lo, hj, hlo, rfl, rfl, HE, HRB⟩ := hrel
        by_cases hlt : j < out.length
        · obtain ⟨p, x1, x2, x3, x4, x5, x6, x7, x8⟩ := end_at HPL.out HE.out hlt
          rw [HLL.out] at x6
          have hcells := fun W' (hb : Below w4.heap.size w4 W') => tok_cells (Kd.C_below HC4.out hb) j hlt
          have HX8 := Lib.hid x8
          have HX3 := Lib.hid x3
          have HEN : Hid (EndIs out (j + 1) (p + tokLen (out.getD j Tok.nil))) := Lib.hid (.inr ⟨j, p, rfl, x1, rfl⟩)
          clear x8 x3
          generalize out.getD j Tok.nil = x at *
          rw [x1] at hcells
          obtain ⟨ad1, e1, p0, p1, p2, p3⟩ := hcells wr HRB.out
          obtain rfl := e1
          have HCE := Lib.hid hcells
          clear hcells
          try (have x7b := x7 hen0)
          clear x7
          have hLL : tokLen ⟨x.kind, (p : Int), x.value, x.name⟩ = tokLen x := rfl
          generalize hL : tokLen x = L at *
          have hx6i : (p : Int) + (L : Int) ≤ (n : Int) := by omega
          obtain ⟨A', hmid, hmr⟩ := mid_cut A n c p L l HLL.out (by omega) hnc
          have HMR := Lib.hid hmr
          have HMID := Lib.hid hmid
          clear hmr hmid
          have hL0 : ((L : Int) == 0) = false := by simp; omega
          go_wp2_with fail
          refine (length_any ⟨x.kind, (p : Int), x.value, x.name⟩ _ HX3.out x4).mono ?_
          rintro e w5 ⟨rfl, hb5⟩
          rw [hLL]
          have HB5 := Lib.hid (below_then HRB.out HRB.out.size hb5)
          have HBW := Lib.hid (below_then HB4.out HB4.out.size HB5.out)
          clear hb5 p0 p1 p2 p3 hLL
          obtain ⟨ad2, e2, p0, p1, p2, p3⟩ := HCE.out w5 HB5.out
          injection e2 with e2
          subst e2
          have hmid := HMID.out
          go_wp2_with (go_at_call 18; refine (num_any _ _).mono ?_; rintro e w' ⟨rfl, rfl⟩)
          clear p0 p1 p2 p3 hmid
          have HB6 := Lib.hid (HBW.out.alloc HBW.out.size (.cells #[.int .i64 x.kind, .int .i64 (p : Int), .int .i64 x.value, .string x.name] 33))
          have HB6r := Lib.hid (HB5.out.alloc HB5.out.size (.cells #[.int .i64 x.kind, .int .i64 (p : Int), .int .i64 x.value, .string x.name] 33))
          have HRW := Lib.hid (heap_alloc_new w5 (.cells #[.int .i64 x.kind, .int .i64 (p : Int), .int .i64 x.value, .string x.name] 33))
          refine (tokens_any A' L (c - p) ((l.drop p).take L) _ _ _ _ (by omega) (by exact HMR.out _ (HR.out.below HB6.out)) ((HB.out.drop p).take L) (by omega) HX8.out).mono ?_
          rintro e w7 ⟨v7, rfl, hO7, hb7⟩
          have HB7 := Lib.hid (below_then HB6r.out HB6r.out.size hb7)
          have hR7 := below_row (by exact HRW.out) hb7
          have hO7b := Kd.R_mono (Kd.R_bound hO7) (ok' := fun k => w5.heap.size + 1 ≤ k) (fun k hk => by have := hk.2.1; rw [size_alloc'] at this; exact this)
          have hO7c := Kd.R_far (p := ⟨w5.heap.size, 1, none⟩) hO7b (fun k hk => by show k ≠ w5.heap.size; omega) (.int .i64 0)
          have hR8 : (w7.setCell ⟨w5.heap.size, 1, none⟩ (.int .i64 0)).heap[w5.heap.size]? = some (.cells #[.int .i64 x.kind, .int .i64 0, .int .i64 x.value, .string x.name] 33 (0, 0)) := heap_setCell_same w7 w5.heap.size 1 _ 33 (.int .i64 0) hR7
          have t0 := row_cell hR7
          obtain ⟨A7, c7, rfl, hC7⟩ := R_same hO7c
          obtain ⟨ad7, e7, r0, r1, r2, r3⟩ := tok_cells hC7 0 (by simp)
          obtain rfl := e7
          have HB8 := Lib.hid (HB7.out.setCell (p := ⟨w5.heap.size, 1, none⟩) (by show w4.heap.size ≤ w5.heap.size; exact HB5.out.size) (.int .i64 0))
          have u0 := row_cell hR8
          clear hb7 hO7 hO7b hO7c hC7 hR7 hR8
          simp only [List.length_singleton, List.getD_cons_zero] at r0 r1 r2 r3 ⊢
          go_wp2_with fail
          clear t0
          obtain ⟨ad3, e3, p0, p1, p2, p3⟩ := HCE.out _ HB8.out
          injection e3 with e3
          subst e3
          have hA0 : ad7.add (0 * 4) = ad7 := by simp [Addr.add]
          rw [hA0] at r0 r1 r2 r3
          clear hA0
          go_quiet ((go_at_call 18; exact Calls.quiet_of_same ((num_any _ _).mono fun e w' h => ⟨h.1, h.2.symm⟩)))
          clear r0 r1 r2 r3 u0
          go_wp2
          go_roundw
          case rel => exact ⟨j + 1, p + L, by omega, by omega, by go_num, by go_num, HEN, Lib.hid (pw_below_drewN HB8.out _)⟩
          case measure => simp [intOf]; omega
        · obtain rfl : j = out.length := by omega
          go_wp2
          go_ret
          exact ⟨rfl, below_then HB4.out HB4.out.size HRB.out⟩
  · go_enter Try.func7, Try.ntmps7
    go_wp2
    go_ret
    exact ⟨rfl, Below.refl _ _⟩
end Go.Proofs.Yteenkeccpfgffaa
