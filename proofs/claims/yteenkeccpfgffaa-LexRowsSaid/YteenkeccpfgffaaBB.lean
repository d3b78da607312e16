/- The plain lexer: what hangs on what (chapter 2; plain). -/
import Derived.Test.YteenkeccpfgffaaBA
set_option linter.unusedVariables false
set_option linter.unusedSimpArgs false
namespace Go.Proofs.Yteenkeccpfgffaa
open Go.RowKit Go.Proofs.YteenkeccpfgffaaW.PrintWords Go.Proofs.YteenkeccpfgffaaW.PrintLast Go.Proofs.YteenkeccpfgffaaW.PrintMore

section
variable {o k n : Nat} {t : List Int} {x : Tok} {e : Int}
theorem lx_bad (h : skipL false t = (k, false)) : lex o t = ([], ((o + k : Nat) : Int), 20) := by
  unfold lex
  rw [lexR, h, if_pos rfl]
theorem lx_end (h : skipL false t = (k, true)) (hk : t.length ≤ k) : lex o t = ([], 0, 0) := by
  unfold lex
  rw [lexR, h, if_neg (by simp), if_pos hk]
theorem lx_fault (h : skipL false t = (k, true)) (hk : k < t.length) (hS : tokS (t.drop k) = (x, e, n)) (he : e ≠ 0) : lex o t = ([], ((o + k : Nat) : Int), e) := by
  unfold lex
  rw [lexR, h]
  simp only []
  rw [if_neg (by simp), if_neg (by omega), hS, if_pos he]
theorem tokS_ok (ht : t ≠ []) (hS : tokS t = (x, 0, n)) : 0 < n ∧ n ≤ t.length := by
  have hl : 0 < t.length := List.length_pos_iff.2 ht
  have := tokAt_ok (l := t) (p := 0) (x := x) (q := n) hl hS
  omega
theorem lx_tok (h : skipL false t = (k, true)) (hk : k < t.length) (hS : tokS (t.drop k) = (x, 0, n)) :
    lex o t = (x.shift ((o + k : Nat) : Int) :: (lex (o + k + n) ((t.drop k).drop n)).1, (lex (o + k + n) ((t.drop k).drop n)).2) := by
  have hok := tokS_ok (by intro h2; have := congrArg List.length h2; rw [List.length_drop] at this; simp at this; omega) hS
  rw [List.length_drop] at hok
  have hm : lexR t.length (o + k + n) ((t.drop k).drop n) = lex (o + k + n) ((t.drop k).drop n) := by
    unfold lex
    exact lexR_more _ _ _ (by omega) _ (by rw [List.length_drop, List.length_drop]; omega)
  rw [show lex o t = lexR (t.length + 1) o t from rfl, lexR, h]
  simp only []
  rw [if_neg (by simp), if_neg (by omega), hS]
  simp only [ne_eq, not_true_eq_false, if_false]
  rw [hm]
end
/-- Every suffix is one of the four. -/
theorem lx_cases (t : List Int) : (∃ k, skipL false t = (k, false) ∧ k ≤ t.length) ∨ (∃ k, skipL false t = (k, true) ∧ t.length ≤ k) ∨ ∃ k x e n, skipL false t = (k, true) ∧ k < t.length ∧ tokS (t.drop k) = (x, e, n) := by
  have hle := skipL_le false t
  generalize hs : skipL false t = s at *
  obtain ⟨k, ok⟩ := s
  cases ok
  · exact .inl ⟨k, rfl, hle⟩
  · rcases Nat.lt_or_ge k t.length with h | h
    · generalize hS : tokS (t.drop k) = r
      obtain ⟨x, e, n⟩ := r
      exact .inr (.inr ⟨k, x, e, n, rfl, h, hS⟩)
    · exact .inr (.inl ⟨k, rfl, h⟩)
theorem Tok.shift_shift (x : Tok) (a b : Int) : (x.shift a).shift b = x.shift (a + b) := by simp [Tok.shift, Int.add_assoc]
/-- What stands ahead moves places alone. -/
theorem lex_shift (d : Nat) : ∀ (m : Nat) (o : Nat) (t : List Int), t.length ≤ m → lex (o + d) t = ((lex o t).1.map fun x => x.shift d, if (lex o t).2.2 = 0 then 0 else (lex o t).2.1 + d, (lex o t).2.2) := by
  intro m
  induction m with
  | zero =>
    intro o t ht
    obtain rfl : t = [] := List.eq_nil_of_length_eq_zero (by omega)
    rw [lx_end (o := o + d) (k := 0) rfl (by simp), lx_end (o := o) (k := 0) rfl (by simp)]
    rfl
  | succ m ih =>
    intro o t ht
    rcases lx_cases t with ⟨k, h, _⟩ | ⟨k, h, hk⟩ | ⟨k, x, e, n, h, hk, hS⟩
    · rw [lx_bad h, lx_bad h]
      simp
      omega
    · rw [lx_end h hk, lx_end h hk]; rfl
    · by_cases he : e = 0
      · subst he
        have hok := tokS_ok (by intro h2; have := congrArg List.length h2; rw [List.length_drop] at this; simp at this; omega) hS
        rw [List.length_drop] at hok
        rw [lx_tok h hk hS, lx_tok h hk hS]
        have e1 : o + d + k + n = (o + k + n) + d := by omega
        rw [e1, ih (o + k + n) _ (by rw [List.length_drop, List.length_drop]; omega)]
        simp only [List.map_cons, Tok.shift_shift]
        have e2 : ((o + d + k : Nat) : Int) = ((o + k : Nat) : Int) + d := by omega
        rw [e2]
      · rw [lx_fault h hk hS he, lx_fault h hk hS he]
        simp [he]
        omega

/-! ### Blanks -/
/-- A text that is gone over wholly, whatever stands behind it. -/
def Blank (g : List Int) : Prop := ∀ b, skipL false (g ++ b) = (g.length + (skipL false b).1, (skipL false b).2)
theorem Blank.nil : Blank [] := fun b => by simp
theorem Blank.append {g h : List Int} (hg : Blank g) (hh : Blank h) : Blank (g ++ h) := fun b => by
  rw [List.append_assoc, hg, hh, List.length_append]
  simp
  omega
/-- What skip goes over is blank; behind it a token stands, or may not. -/
theorem skip_blank_take : ∀ (t : List Int) (cm : Bool) (k : Nat), skipL cm t = (k, true) → k < t.length →
    (∀ b, skipL cm (t.take k ++ b) = (k + (skipL false b).1, (skipL false b).2)) ∧ skipL false (t.drop k) = (0, true) ∧ (cm = true → 0 < k) := by
  intro t
  induction t with
  | nil => intro cm k h hk; simp at hk
  | cons c r ih =>
    intro cm k h hk
    cases cm
    · by_cases h1 : cls c = 1
      · rw [skipL, if_pos h1] at h
        obtain ⟨k', rfl⟩ : ∃ k', k = k' + 1 := ⟨(skipL false r).1, by simpa using (congrArg Prod.fst h).symm⟩
        have h2 : skipL false r = (k', true) := by
          have a := congrArg Prod.fst h
          have b := congrArg Prod.snd h
          simp at a b
          exact Prod.ext a b
        obtain ⟨i1, i2, i3⟩ := ih false k' h2 (by simpa using hk)
        refine ⟨fun b => ?_, by simpa using i2, fun h => by cases h⟩
        rw [List.take_succ_cons, List.cons_append, skipL, if_pos h1, i1 b]
        simp
        omega
      · by_cases h2 : c = 47 ∧ r ≠ [] ∧ rd r 0 = 47
        · rw [skipL, if_neg h1, if_pos h2] at h
          obtain ⟨k', rfl⟩ : ∃ k', k = k' + 1 := ⟨(skipL true r).1, by simpa using (congrArg Prod.fst h).symm⟩
          have h3 : skipL true r = (k', true) := by
            have a := congrArg Prod.fst h
            have b := congrArg Prod.snd h
            simp at a b
            exact Prod.ext a b
          obtain ⟨i1, i2, i3⟩ := ih true k' h3 (by simpa using hk)
          have hk0 := i3 rfl
          refine ⟨fun b => ?_, by simpa using i2, fun h => by cases h⟩
          obtain ⟨k2, rfl⟩ : ∃ k2, k' = k2 + 1 := ⟨k' - 1, by omega⟩
          obtain ⟨d, r2, rfl⟩ : ∃ d r2, r = d :: r2 := by
            cases r with
            | nil => exact absurd rfl h2.2.1
            | cons d r2 => exact ⟨d, r2, rfl⟩
          rw [List.take_succ_cons, List.cons_append, skipL, if_neg h1, if_pos ⟨h2.1, by simp, by rw [List.take_succ_cons, List.cons_append]; exact h2.2.2⟩, i1 b]
          simp
          omega
        · rw [skipL, if_neg h1, if_neg h2] at h
          obtain ⟨rfl, _⟩ : (0 : Nat) = k ∧ true = true := ⟨by simpa using congrArg Prod.fst h, rfl⟩
          refine ⟨fun b => by simp, ?_, fun h => by cases h⟩
          rw [List.drop_zero, skipL, if_neg h1, if_neg h2]
    · by_cases h0 : cls c = 0
      · rw [skipL, if_pos h0] at h
        have := congrArg Prod.snd h
        simp at this
      · rw [skipL, if_neg h0] at h
        obtain ⟨k', rfl⟩ : ∃ k', k = k' + 1 := ⟨(skipL (c != 10) r).1, by simpa using (congrArg Prod.fst h).symm⟩
        have h3 : skipL (c != 10) r = (k', true) := by
          have a := congrArg Prod.fst h
          have b := congrArg Prod.snd h
          simp at a b
          exact Prod.ext a b
        obtain ⟨i1, i2, i3⟩ := ih (c != 10) k' h3 (by simpa using hk)
        refine ⟨fun b => ?_, by simpa using i2, fun _ => by omega⟩
        rw [List.take_succ_cons, List.cons_append, skipL, if_neg h0, i1 b]
        simp
        omega
theorem blank_take {t : List Int} {k : Nat} (h : skipL false t = (k, true)) (hk : k < t.length) : Blank (t.take k) := by
  intro b
  rw [(skip_blank_take t false k h hk).1 b, List.length_take]
  simp
  omega
theorem stop_drop {t : List Int} {k : Nat} (h : skipL false t = (k, true)) (hk : k < t.length) : skipL false (t.drop k) = (0, true) := (skip_blank_take t false k h hk).2.1
/-- A fault in a comment stays where it is, whatever comes behind. -/
theorem skip_bad_ext (s : List Int) : ∀ (t : List Int) (cm : Bool) (k : Nat), skipL cm t = (k, false) → skipL cm (t ++ s) = (k, false) ∧ (skipL cm (t.take k)) = (k, true) ∧ k < t.length := by
  intro t
  induction t with
  | nil => intro cm k h; cases cm <;> simp [skipL] at h
  | cons c r ih =>
    intro cm k h
    cases cm
    · by_cases h1 : cls c = 1
      · rw [skipL, if_pos h1] at h
        obtain ⟨k', rfl⟩ : ∃ k', k = k' + 1 := ⟨(skipL false r).1, by simpa using (congrArg Prod.fst h).symm⟩
        have h2 : skipL false r = (k', false) := by
          have a := congrArg Prod.fst h
          have b := congrArg Prod.snd h
          simp at a b
          exact Prod.ext a b
        obtain ⟨i1, i2, i3⟩ := ih false k' h2
        refine ⟨?_, ?_, by simpa using i3⟩
        · rw [List.cons_append, skipL, if_pos h1, i1]
        · rw [List.take_succ_cons, skipL, if_pos h1, i2]
      · by_cases h2 : c = 47 ∧ r ≠ [] ∧ rd r 0 = 47
        · rw [skipL, if_neg h1, if_pos h2] at h
          obtain ⟨k', rfl⟩ : ∃ k', k = k' + 1 := ⟨(skipL true r).1, by simpa using (congrArg Prod.fst h).symm⟩
          have h3 : skipL true r = (k', false) := by
            have a := congrArg Prod.fst h
            have b := congrArg Prod.snd h
            simp at a b
            exact Prod.ext a b
          obtain ⟨i1, i2, i3⟩ := ih true k' h3
          obtain ⟨d, r2, rfl⟩ : ∃ d r2, r = d :: r2 := by
            cases r with
            | nil => exact absurd rfl h2.2.1
            | cons d r2 => exact ⟨d, r2, rfl⟩
          have hd : d = 47 := h2.2.2
          have hk0 : k' ≠ 0 := by
            rintro rfl
            rw [hd, skipL, if_neg (by decide)] at h3
            have := congrArg Prod.fst h3
            simp at this
          obtain ⟨k2, rfl⟩ : ∃ k2, k' = k2 + 1 := ⟨k' - 1, by omega⟩
          refine ⟨?_, ?_, by simpa using i3⟩
          · rw [List.cons_append, skipL, if_neg h1, if_pos ⟨h2.1, by simp, hd⟩, i1]
          · rw [List.take_succ_cons, skipL, if_neg h1, if_pos ⟨h2.1, by simp, by rw [List.take_succ_cons]; exact hd⟩, i2]
        · rw [skipL, if_neg h1, if_neg h2] at h
          have := congrArg Prod.snd h
          simp at this
    · by_cases h0 : cls c = 0
      · rw [skipL, if_pos h0] at h
        obtain rfl : (0 : Nat) = k := by simpa using congrArg Prod.fst h
        refine ⟨?_, by simp [skipL], by simp⟩
        rw [List.cons_append, skipL, if_pos h0]
      · rw [skipL, if_neg h0] at h
        obtain ⟨k', rfl⟩ : ∃ k', k = k' + 1 := ⟨(skipL (c != 10) r).1, by simpa using (congrArg Prod.fst h).symm⟩
        have h3 : skipL (c != 10) r = (k', false) := by
          have a := congrArg Prod.fst h
          have b := congrArg Prod.snd h
          simp at a b
          exact Prod.ext a b
        obtain ⟨i1, i2, i3⟩ := ih (c != 10) k' h3
        refine ⟨?_, ?_, by simpa using i3⟩
        · rw [List.cons_append, skipL, if_neg h0, i1]
        · rw [List.take_succ_cons, skipL, if_neg h0, i2]
end Go.Proofs.Yteenkeccpfgffaa
