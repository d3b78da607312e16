/- Texts that go on, that are cut, that are put apart (chapter 2; plain). -/
import Derived.Test.YteenkeccpfgffaaBC
set_option linter.unusedVariables false
set_option linter.unusedSimpArgs false
namespace Go.Proofs.Yteenkeccpfgffaa
open Go.RowKit Go.Proofs.YteenkeccpfgffaaW.PrintWords Go.Proofs.YteenkeccpfgffaaW.PrintLast Go.Proofs.YteenkeccpfgffaaW.PrintMore

section
variable {o n : Nat} {g u s : List Int} {x : Tok} {e : Int}
theorem lx_step (hg : Blank g) (hne : u ≠ []) (hb : byteRange u) (hs : skipL false u = (0, true)) (h : tokS u = (x, 0, n)) (ha : After u n s) :
    lex o (g ++ (u.take n ++ s)) = (x.shift ((o + g.length : Nat) : Int) :: (lex (o + g.length + n) s).1, (lex (o + g.length + n) s).2) := by
  obtain ⟨hn, hu⟩ := tokS_ok hne h
  have h1 : skipL false (g ++ (u.take n ++ s)) = (g.length, true) := by rw [hg, stop_pre hn hu hs ha]; rfl
  have h2 : (g ++ (u.take n ++ s)).drop g.length = u.take n ++ s := List.drop_left
  have hl : (u.take n).length = n := by rw [List.length_take]; omega
  have h3 : (u.take n ++ s).drop n = s := by
    conv => lhs; rw [← hl]
    rw [hl, List.drop_append_of_le_length (by omega), List.drop_of_length_le (by omega), List.nil_append]
  rw [lx_tok h1 (by rw [List.length_append, List.length_append, hl]; omega) (by rw [h2]; exact tok_pre hne hb h ha), h2, h3]
theorem lx_fail (hg : Blank g) (hne : u ≠ []) (hs : skipL false u = (0, true)) (h : tokS u = (x, e, n)) (he : e ≠ 0) : lex o (g ++ u) = ([], ((o + g.length : Nat) : Int), e) := by
  have hl : 0 < u.length := List.length_pos_iff.2 hne
  have h1 : skipL false (g ++ u) = (g.length, true) := by rw [hg, hs]; rfl
  have h2 : (g ++ u).drop g.length = u := List.drop_left
  exact lx_fault h1 (by rw [List.length_append]; omega) (by rw [h2]; exact h) he
end
theorem lx_form (t : List Int) (hb : byteRange t) : (∃ k, skipL false t = (k, false) ∧ k < t.length) ∨ (∃ k, skipL false t = (k, true) ∧ t.length ≤ k)
    ∨ (∃ g u x e n, t = g ++ u ∧ Blank g ∧ u ≠ [] ∧ byteRange u ∧ skipL false u = (0, true) ∧ tokS u = (x, e, n) ∧ e ≠ 0)
    ∨ ∃ g u x n, t = g ++ u ∧ Blank g ∧ u ≠ [] ∧ byteRange u ∧ skipL false u = (0, true) ∧ tokS u = (x, 0, n) ∧ 0 < n ∧ n ≤ u.length := by
  rcases lx_cases t with ⟨k, h, _⟩ | ⟨k, h, hk⟩ | ⟨k, x, e, n, h, hk, hS⟩
  · exact .inl ⟨k, h, (skip_bad_ext [] t false k h).2.2⟩
  · exact .inr (.inl ⟨k, h, hk⟩)
  · have hne : t.drop k ≠ [] := by intro h2; have := congrArg List.length h2; rw [List.length_drop] at this; simp at this; omega
    have ht : t = t.take k ++ t.drop k := (List.take_append_drop k t).symm
    by_cases he : e = 0
    · subst he
      obtain ⟨hn, hu⟩ := tokS_ok hne hS
      exact .inr (.inr (.inr ⟨_, _, x, n, ht, blank_take h hk, hne, hb.drop k, stop_drop h hk, hS, hn, hu⟩))
    · exact .inr (.inr (.inl ⟨_, _, x, e, n, ht, blank_take h hk, hne, hb.drop k, stop_drop h hk, hS, he⟩))
theorem after_same {u r2 : List Int} {n : Nat} (h : r2 = [] ∨ (u.drop n ≠ [] ∧ r2 ≠ [] ∧ rd r2 0 = rd (u.drop n) 0)) : After u n r2 := by
  rcases h with h | ⟨h1, h2, h3⟩
  · exact .inl h
  · refine .inr (.inr ⟨?_, h2, ?_⟩)
    · rcases Nat.lt_or_ge n u.length with h | h
      · exact h
      · exact absurd (List.drop_eq_nil_of_le h) h1
    · rw [h3]; exact rd_drop0 u n
theorem after_append {u s : List Int} {n : Nat} (hs : BHead s) : After u n (u.drop n ++ s) := by
  cases h : u.drop n with
  | nil => rw [List.nil_append]; exact hs.after _ _
  | cons c r => exact after_same (.inr ⟨by rw [h]; simp, by simp, by rw [h]; rfl⟩)
theorem after_take {u : List Int} {n m : Nat} : After u n ((u.drop n).take m) := by
  cases h : u.drop n with
  | nil => rw [List.take_nil]; exact .inl rfl
  | cons c r =>
    cases m with
    | zero => exact .inl rfl
    | succ m => exact after_same (.inr ⟨by rw [h]; simp, by simp, by rw [h]; rfl⟩)
theorem BHead.append {g : List Int} (h : BHead g) (hne : g ≠ []) (s : List Int) : BHead (g ++ s) := by
  cases g with
  | nil => exact absurd rfl hne
  | cons c r =>
    rcases h with h | h
    · cases h
    · exact .inr h
theorem after_put {u g s : List Int} {n m : Nat} (hg : BHead g) (hne : g ≠ []) : After u n ((u.drop n).take m ++ (g ++ s)) := by
  cases h : u.drop n with
  | nil => rw [List.take_nil, List.nil_append]; exact (hg.append hne s).after _ _
  | cons c r =>
    cases m with
    | zero => rw [List.take_zero, List.nil_append]; exact (hg.append hne s).after _ _
    | succ m => exact after_same (.inr ⟨by rw [h]; simp, by simp, by rw [h]; rfl⟩)
theorem after_drop {u : List Int} {n : Nat} : After u n (u.drop n) := by
  have := after_append (u := u) (n := n) (s := []) (.inl rfl)
  rwa [List.append_nil] at this
theorem cut_u (u : List Int) (n : Nat) : u = u.take n ++ u.drop n := (List.take_append_drop n u).symm
/-- With a fault: what stands behind a line's end changes nothing. -/
theorem lex_ext {s : List Int} (hs : BHead s) : ∀ (m o : Nat) (t : List Int), t.length ≤ m → byteRange t → (lex o t).2.2 ≠ 0 → lex o (t ++ s) = lex o t := by
  intro m
  induction m with
  | zero =>
    intro o t ht
    obtain rfl : t = [] := List.eq_nil_of_length_eq_zero (by omega)
    intro _ h
    rw [lx_end (o := o) (k := 0) rfl (by simp)] at h
    exact absurd rfl h
  | succ m ih =>
    intro o t ht hb h
    rcases lx_form t hb with ⟨k, h1, hk⟩ | ⟨k, h1, hk⟩ | ⟨g, u, x, e, n, rfl, hg, hne, hbu, hsk, hS, he⟩ | ⟨g, u, x, n, rfl, hg, hne, hbu, hsk, hS, hn, hu⟩
    · rw [lx_bad h1, lx_bad (skip_bad_ext s t false k h1).1]
    · rw [lx_end h1 hk] at h
      exact absurd rfl h
    · rw [List.append_assoc, lx_fail hg hne hsk hS he, lx_fail hg (by simp [hne]) (stop_ext hne hsk hs) (tok_err hne hbu hS he hs) he]
    · have e1 : g ++ u = g ++ (u.take n ++ u.drop n) := by rw [← cut_u]
      have e2 : g ++ u ++ s = g ++ (u.take n ++ (u.drop n ++ s)) := by rw [List.append_assoc, ← List.append_assoc (u.take n), ← cut_u]
      rw [e2, lx_step hg hne hbu hsk hS (after_append hs)]
      rw [e1, lx_step hg hne hbu hsk hS after_drop] at h ⊢
      rw [List.length_append] at ht
      rw [ih _ (u.drop n) (by rw [List.length_drop]; omega) (hbu.drop n) h]
/-- The tokens stay, as far as they go. -/
theorem lex_pre {s : List Int} (hs : BHead s) : ∀ (m o : Nat) (t : List Int), t.length ≤ m → byteRange t → ∃ r, (lex o (t ++ s)).1 = (lex o t).1 ++ r := by
  intro m
  induction m with
  | zero =>
    intro o t ht _
    obtain rfl : t = [] := List.eq_nil_of_length_eq_zero (by omega)
    rw [lx_end (o := o) (k := 0) (t := []) rfl (by simp)]
    exact ⟨_, rfl⟩
  | succ m ih =>
    intro o t ht hb
    rcases lx_form t hb with ⟨k, h1, hk⟩ | ⟨k, h1, hk⟩ | ⟨g, u, x, e, n, rfl, hg, hne, hbu, hsk, hS, he⟩ | ⟨g, u, x, n, rfl, hg, hne, hbu, hsk, hS, hn, hu⟩
    · rw [lx_bad h1]
      exact ⟨_, rfl⟩
    · rw [lx_end h1 hk]
      exact ⟨_, rfl⟩
    · rw [lx_fail hg hne hsk hS he]
      exact ⟨_, rfl⟩
    · have e1 : g ++ u = g ++ (u.take n ++ u.drop n) := by rw [← cut_u]
      have e2 : g ++ u ++ s = g ++ (u.take n ++ (u.drop n ++ s)) := by rw [List.append_assoc, ← List.append_assoc (u.take n), ← cut_u]
      rw [e2, lx_step hg hne hbu hsk hS (after_append hs), e1, lx_step hg hne hbu hsk hS after_drop]
      rw [List.length_append] at ht
      obtain ⟨r, hr⟩ := ih (o + g.length + n) (u.drop n) (by rw [List.length_drop]; omega) (hbu.drop n)
      exact ⟨r, by rw [hr]; rfl⟩
theorem tok_errs {u : List Int} {x : Tok} {e : Int} {n : Nat} (h : tokS u = (x, e, n)) : e = 0 ∨ e = 20 ∨ e = 21 ∨ e = 22 := by
  unfold tokS tokAt at h
  split at h
  · unfold nameAt at h
    split at h <;> obtain ⟨_, rfl, _⟩ := tri h <;> simp
  · split at h
    · unfold numberAt at h
      split at h
      · obtain ⟨_, rfl, _⟩ := tri h
        simp
      · cases hN : numFrom 0 ((u.drop 0).take (strL false (u.drop 0))) with
        | none => rw [hN] at h; obtain ⟨_, rfl, _⟩ := tri h; simp
        | some v => rw [hN] at h; obtain ⟨_, rfl, _⟩ := tri h; simp
    · split at h
      · unfold signAt at h
        split at h
        · obtain ⟨_, rfl, _⟩ := tri h; simp
        · split at h <;> obtain ⟨_, rfl, _⟩ := tri h <;> simp
      · obtain ⟨_, rfl, _⟩ := tri h; simp
/-- The bytes ahead of a fault. -/
theorem lex_take : ∀ (m o : Nat) (t : List Int), t.length ≤ m → byteRange t → (lex o t).2.2 ≠ 0 →
    ∃ p : Nat, (lex o t).2.1 = ((o + p : Nat) : Int) ∧ p < t.length ∧ lex o (t.take p) = ((lex o t).1, 0, 0) ∧ ((lex o t).2.2 = 20 ∨ (lex o t).2.2 = 21 ∨ (lex o t).2.2 = 22) := by
  intro m
  induction m with
  | zero =>
    intro o t ht
    obtain rfl : t = [] := List.eq_nil_of_length_eq_zero (by omega)
    intro _ h
    rw [lx_end (o := o) (k := 0) rfl (by simp)] at h
    exact absurd rfl h
  | succ m ih =>
    intro o t ht hb h
    rcases lx_form t hb with ⟨k, h1, hk⟩ | ⟨k, h1, hk⟩ | ⟨g, u, x, e, n, rfl, hg, hne, hbu, hsk, hS, he⟩ | ⟨g, u, x, n, rfl, hg, hne, hbu, hsk, hS, hn, hu⟩
    · rw [lx_bad h1]
      refine ⟨k, rfl, hk, ?_, .inl rfl⟩
      exact lx_end (skip_bad_ext [] t false k h1).2.1 (by rw [List.length_take]; omega)
    · rw [lx_end h1 hk] at h
      exact absurd rfl h
    · rw [lx_fail hg hne hsk hS he]
      have hl : 0 < u.length := List.length_pos_iff.2 hne
      refine ⟨g.length, rfl, by rw [List.length_append]; omega, ?_, by rcases tok_errs hS with h | h <;> simp_all⟩
      rw [List.take_left]
      have h1 : skipL false g = (g.length, true) := by have := hg []; rwa [List.append_nil] at this
      exact lx_end h1 (Nat.le_refl _)
    · have e1 : g ++ u = g ++ (u.take n ++ u.drop n) := by rw [← cut_u]
      rw [e1, lx_step hg hne hbu hsk hS after_drop] at h ⊢
      rw [List.length_append] at ht
      obtain ⟨p, hp, hpl, hlx, her⟩ := ih (o + g.length + n) (u.drop n) (by rw [List.length_drop]; omega) (hbu.drop n) h
      have hl : (u.take n).length = n := by rw [List.length_take]; omega
      refine ⟨g.length + (n + p), by rw [hp, Nat.add_assoc, Nat.add_assoc], by rw [List.length_append, List.length_append, hl]; omega, ?_, her⟩
      have e2 : (g ++ (u.take n ++ u.drop n)).take (g.length + (n + p)) = g ++ (u.take n ++ (u.drop n).take p) := by
        rw [List.take_append, List.take_of_length_le (by omega), Nat.add_sub_cancel_left, List.take_append, List.take_of_length_le (l := u.take n) (by omega), hl, Nat.add_sub_cancel_left]
      rw [e2, lx_step hg hne hbu hsk hS after_take, hlx]
/-- Something blank that is put ahead of a token. -/
theorem lex_put {g2 : List Int} (hg2 : Blank g2) (hh : BHead g2) (hne2 : g2 ≠ []) : ∀ (m o : Nat) (t : List Int), t.length ≤ m → byteRange t → ∀ i (hi : i < (lex o t).1.length),
    ∃ p : Nat, ((lex o t).1[i]).at_ = ((o + p : Nat) : Int) ∧ p < t.length ∧ lex o (t.take p ++ (g2 ++ t.drop p)) = ((lex o t).1.take i ++ ((lex o t).1.drop i).map (fun x => x.shift (g2.length : Nat)), if (lex o t).2.2 = 0 then 0 else (lex o t).2.1 + (g2.length : Nat), (lex o t).2.2) := by
  intro m
  induction m with
  | zero =>
    intro o t ht _ i hi
    obtain rfl : t = [] := List.eq_nil_of_length_eq_zero (by omega)
    rw [lx_end (o := o) (k := 0) rfl (by simp)] at hi
    simp at hi
  | succ m ih =>
    intro o t ht hb
    rcases lx_form t hb with ⟨k, h1, hk⟩ | ⟨k, h1, hk⟩ | ⟨g, u, x, e, n, rfl, hg, hne, hbu, hsk, hS, he⟩ | ⟨g, u, x, n, rfl, hg, hne, hbu, hsk, hS, hn, hu⟩
    · rw [lx_bad h1]
      intro i hi
      simp at hi
    · rw [lx_end h1 hk]
      intro i hi
      simp at hi
    · rw [lx_fail hg hne hsk hS he]
      intro i hi
      simp at hi
    · have e1 : g ++ u = g ++ (u.take n ++ u.drop n) := by rw [← cut_u]
      have hul : 0 < u.length := by omega
      have hl : (u.take n).length = n := by rw [List.length_take]; omega
      rw [List.length_append] at ht
      rw [e1, lx_step hg hne hbu hsk hS after_drop]
      have hx0 : tokS u = (x, 0, n) → x.at_ = 0 := by
        intro h
        unfold tokS tokAt at h
        split at h
        · unfold nameAt at h
          split at h
          · obtain ⟨_, h2, _⟩ := tri h; simp at h2
          · obtain ⟨rfl, _, _⟩ := tri h
            unfold nameTok
            split <;> rfl
        · split at h
          · unfold numberAt at h
            split at h
            · obtain ⟨_, h2, _⟩ := tri h; simp at h2
            · cases hN : numFrom 0 ((u.drop 0).take (strL false (u.drop 0))) with
              | none => rw [hN] at h; obtain ⟨_, h2, _⟩ := tri h; simp at h2
              | some v => rw [hN] at h; obtain ⟨rfl, _, _⟩ := tri h; rfl
          · split at h
            · unfold signAt at h
              split at h
              · obtain ⟨rfl, _, _⟩ := tri h; rfl
              · split at h
                · obtain ⟨_, h2, _⟩ := tri h; simp at h2
                · obtain ⟨rfl, _, _⟩ := tri h; rfl
            · obtain ⟨_, h2, _⟩ := tri h; simp at h2
      have hx := hx0 hS
      intro i hi
      cases i with
      | zero =>
        refine ⟨g.length, by simp [Tok.shift, hx], by rw [List.length_append, List.length_append, hl, List.length_drop]; omega, ?_⟩
        rw [List.take_left, List.drop_left, ← List.append_assoc, lx_step (hg.append hg2) hne hbu hsk hS after_drop]
        have e2 : o + (g ++ g2).length + n = (o + g.length + n) + g2.length := by rw [List.length_append]; omega
        rw [e2, lex_shift _ _ _ _ (Nat.le_refl _)]
        simp only [List.take_zero, List.nil_append, List.drop_zero, List.map_cons, Tok.shift_shift, List.length_append]
        have e3 : ((o + (g.length + g2.length) : Nat) : Int) = ((o + g.length : Nat) : Int) + (g2.length : Nat) := by omega
        rw [e3]
      | succ i =>
        simp only [List.length_cons] at hi
        obtain ⟨p, hp, hpl, hlx⟩ := ih (o + g.length + n) (u.drop n) (by rw [List.length_drop]; omega) (hbu.drop n) i (by omega)
        refine ⟨g.length + (n + p), ?_, by rw [List.length_append, List.length_append, hl]; omega, ?_⟩
        · rw [List.getElem_cons_succ, hp, Nat.add_assoc, Nat.add_assoc]
        · have e2 : (g ++ (u.take n ++ u.drop n)).take (g.length + (n + p)) = g ++ (u.take n ++ (u.drop n).take p) := by
            rw [List.take_append, List.take_of_length_le (by omega), Nat.add_sub_cancel_left, List.take_append, List.take_of_length_le (l := u.take n) (by omega), hl, Nat.add_sub_cancel_left]
          have e3 : (g ++ (u.take n ++ u.drop n)).drop (g.length + (n + p)) = (u.drop n).drop p := by
            rw [List.drop_append, List.drop_of_length_le (by omega), Nat.add_sub_cancel_left, List.nil_append, List.drop_append, List.drop_of_length_le (l := u.take n) (by omega), hl, Nat.add_sub_cancel_left, List.nil_append]
          rw [e2, e3, List.append_assoc, List.append_assoc, lx_step hg hne hbu hsk hS (after_put hh hne2), hlx]
          simp
end Go.Proofs.Yteenkeccpfgffaa
