/- A token hangs on its own bytes and on whether the next one goes on with it (chapter 2; plain). -/
import Derived.Test.YteenkeccpfgffaaBB
set_option linter.unusedVariables false
set_option linter.unusedSimpArgs false
namespace Go.Proofs.Yteenkeccpfgffaa
open Go.RowKit Go.Proofs.YteenkeccpfgffaaW.PrintWords Go.Proofs.YteenkeccpfgffaaW.PrintLast Go.Proofs.YteenkeccpfgffaaW.PrintMore

/-- Behind the first n bytes of u stands s: nothing, a blank, or what stood there in u. -/
def After (u : List Int) (n : Nat) (s : List Int) : Prop := s = [] ∨ cls (rd s 0) = 1 ∨ (n < u.length ∧ s ≠ [] ∧ rd s 0 = rd u n)
def BHead (s : List Int) : Prop := s = [] ∨ cls (rd s 0) = 1
theorem BHead.after {s : List Int} (h : BHead s) (u : List Int) (n : Nat) : After u n s := by
  rcases h with h | h
  · exact .inl h
  · exact .inr (.inl h)
theorem rd_head (c : Int) (r : List Int) : rd (c :: r) 0 = c := rfl
theorem blanks1 {c : Int} (h : cls c = 1) : c = 9 ∨ c = 10 ∨ c = 13 ∨ c = 32 := by
  unfold cls at h
  split at h
  · simp at h
  · split at h
    · simp at h
    · split at h
      · assumption
      · split at h <;> simp at h
theorem strOk_blank {b : Bool} {c : Int} (h : cls c = 1) : strOk b c = false := by simp [strOk, h]
theorem strL_stop {b : Bool} {u s : List Int} (h : After u (strL b u) s) : s = [] ∨ strOk b (rd s 0) = false := by
  rcases h with h | h | ⟨h1, h2, h3⟩
  · exact .inl h
  · exact .inr (strOk_blank h)
  · refine .inr ?_
    rw [h3]
    cases hc : strOk b (rd u (strL b u)) with
    | false => rfl
    | true =>
      exfalso
      have e : ∀ (v : List Int), strL b v < v.length → strOk b (rd v (strL b v)) = false := by
        intro v
        induction v with
        | nil => intro h; simp at h
        | cons c r ih =>
          intro h
          rw [strL_cons] at h ⊢
          by_cases hk : strOk b c = true
          · rw [if_pos hk] at h ⊢
            have := ih (by simpa using h)
            rw [← this]
            congr 1
          · rw [if_neg hk]
            exact Bool.eq_false_iff.2 hk
      rw [e u h1] at hc
      cases hc
theorem strL_pre (b : Bool) {s : List Int} (hs : s = [] ∨ strOk b (rd s 0) = false) : ∀ u, strL b (u.take (strL b u) ++ s) = strL b u := by
  intro u
  induction u with
  | nil =>
    simp only [List.take_nil, List.nil_append]
    rcases hs with rfl | h
    · rfl
    · cases s with
      | nil => rfl
      | cons d s => rw [strL_cons, if_neg (by rw [rd_head] at h; simp [h])]; rfl
  | cons c r ih =>
    by_cases hk : strOk b c = true
    · rw [strL_cons, if_pos hk, List.take_succ_cons, List.cons_append, strL_cons, if_pos hk, ih]
    · rw [strL_cons, if_neg hk, List.take_zero, List.nil_append]
      rcases hs with rfl | h
      · rfl
      · cases s with
        | nil => rfl
        | cons d s => rw [strL_cons, if_neg (by rw [rd_head] at h; simp [h])]
theorem take_pre {u s : List Int} {n : Nat} (h : n ≤ u.length) : (u.take n ++ s).take n = u.take n := by
  rw [List.take_append_of_le_length (by rw [List.length_take]; omega), List.take_take, Nat.min_self]
theorem rd_pre {u s : List Int} {n k : Nat} (h : n ≤ u.length) (hk : k < n) : rd (u.take n ++ s) k = rd u k := by
  unfold rd
  simp only [Int.toNat_natCast]
  rw [List.getD_eq_getElem?_getD, List.getD_eq_getElem?_getD, List.getElem?_append_left (by rw [List.length_take]; omega), List.getElem?_take_of_lt hk]
theorem two_blank {c d : Int} (hc : 0 ≤ c ∧ c ≤ 255) (hd : cls d = 1) : twoK (strOfNums [c, d]) = 0 := by
  have h := blanks1 hd
  rw [twoK_eq hc (by omega)]
  unfold twoI
  simp only [show ¬ d = 61 by omega, show ¬ d = 94 by omega, show ¬ d = 60 by omega, show ¬ d = 62 by omega, show ¬ d = 38 by omega, show ¬ d = 124 by omega, and_false, if_false]
theorem stop_pre {u s : List Int} {n : Nat} (hn : 0 < n) (hu : n ≤ u.length) (h : skipL false u = (0, true)) (ha : After u n s) : skipL false (u.take n ++ s) = (0, true) := by
  cases u with
  | nil => simp at hu; omega
  | cons c r =>
    obtain ⟨n, rfl⟩ : ∃ m, n = m + 1 := ⟨n - 1, by omega⟩
    rw [skipL] at h
    by_cases h1 : cls c = 1
    · rw [if_pos h1] at h
      have := congrArg Prod.fst h
      simp at this
    · rw [if_neg h1] at h
      rw [List.take_succ_cons, List.cons_append, skipL, if_neg h1, if_neg]
      by_cases h2 : c = 47 ∧ r ≠ [] ∧ rd r 0 = 47
      · rw [if_pos h2] at h
        have := congrArg Prod.fst h
        simp at this
      · rintro ⟨e1, e2, e3⟩
        apply h2
        cases n with
        | zero =>
          simp only [List.take_zero, List.nil_append] at e2 e3
          rcases ha with ha | ha | ⟨a1, a2, a3⟩
          · exact absurd ha e2
          · rw [e3] at ha; exact absurd ha (by decide)
          · cases r with
            | nil => simp at a1
            | cons d r => exact ⟨e1, by simp, by rw [rd_head]; rw [e3] at a3; exact a3.symm⟩
        | succ n =>
          cases r with
          | nil => simp at hu
          | cons d r =>
            rw [List.take_succ_cons, List.cons_append, rd_head] at e3
            exact ⟨e1, by simp, by rw [rd_head]; exact e3⟩
theorem tok_pre {u s : List Int} {x : Tok} {n : Nat} (hne : u ≠ []) (hb : byteRange u) (h : tokS u = (x, 0, n)) (ha : After u n s) : tokS (u.take n ++ s) = (x, 0, n) := by
  obtain ⟨hn, hu⟩ := tokS_ok hne h
  have r0 : rd (u.take n ++ s) ((0 : Nat) : Int) = rd u ((0 : Nat) : Int) := rd_pre hu hn
  unfold tokS tokAt at h ⊢
  rw [r0]
  by_cases h3 : cls (rd u ((0 : Nat) : Int)) = 3
  · rw [if_pos h3] at h ⊢
    unfold nameAt at h ⊢
    simp only [List.drop_zero] at h ⊢
    by_cases h64 : 64 < strL true u
    · rw [if_pos h64] at h
      obtain ⟨_, h2, _⟩ := tri h
      simp at h2
    · rw [if_neg h64] at h
      obtain ⟨e1, _, e3⟩ := tri h
      rw [Nat.zero_add] at e3
      subst e3
      rw [strL_pre true (strL_stop ha), if_neg h64, take_pre hu, ← h]
  · rw [if_neg h3] at h ⊢
    by_cases h2 : cls (rd u ((0 : Nat) : Int)) = 2
    · rw [if_pos h2] at h ⊢
      unfold numberAt at h ⊢
      simp only [List.drop_zero] at h ⊢
      rw [r0]
      by_cases h0 : 1 < strL false u ∧ rd u ((0 : Nat) : Int) = 48
      · rw [if_pos h0] at h
        obtain ⟨_, h2, _⟩ := tri h
        simp at h2
      · rw [if_neg h0] at h
        cases hN : numFrom 0 (u.take (strL false u)) with
        | none =>
          rw [hN] at h
          obtain ⟨_, h2, _⟩ := tri h
          simp at h2
        | some v =>
          have h' := h
          rw [hN] at h'
          obtain ⟨e1, _, e3⟩ := tri h'
          rw [Nat.zero_add] at e3
          subst e3
          rw [strL_pre false (strL_stop ha), if_neg h0, take_pre hu, ← h]
    · rw [if_neg h2] at h ⊢
      by_cases h4 : cls (rd u ((0 : Nat) : Int)) = 4
      · rw [if_pos h4] at h ⊢
        unfold signAt at h ⊢
        simp only [List.drop_zero] at h ⊢
        rw [r0]
        by_cases ht : 0 + 1 < u.length ∧ twoK (strOfNums (u.take 2)) ≠ 0
        · rw [if_pos ht] at h
          obtain ⟨_, _, e3⟩ := tri h
          simp only [Nat.zero_add] at e3
          subst e3
          rw [take_pre hu, if_pos ⟨by rw [List.length_append, List.length_take]; omega, ht.2⟩, ← h]
        · rw [if_neg ht] at h
          have hn1 : n = 1 := by
            split at h
            · obtain ⟨_, h2, _⟩ := tri h
              simp at h2
            · obtain ⟨_, _, e3⟩ := tri h
              omega
          subst hn1
          rw [if_neg, ← h]
          rintro ⟨l1, l2⟩
          cases u with
          | nil => exact hne rfl
          | cons c r =>
            rw [List.take_succ_cons, List.take_zero, List.cons_append, List.nil_append] at l1 l2
            cases s with
            | nil => simp at l1
            | cons d s =>
              rw [show (c :: d :: s).take 2 = [c, d] from rfl] at l2
              rcases ha with ha | ha | ⟨a1, a2, a3⟩
              · cases ha
              · exact l2 (two_blank (hb 0) ha)
              · cases r with
                | nil => simp at a1
                | cons d2 r =>
                  have a4 : d = d2 := a3
                  subst a4
                  exact ht ⟨by simp, l2⟩
      · rw [if_neg h4] at h
        obtain ⟨_, h2, _⟩ := tri h
        simp at h2
/-- A fault stays one, where a line's end or nothing comes behind. -/
theorem tok_err {u s : List Int} {x : Tok} {e : Int} {n : Nat} (hne : u ≠ []) (hb : byteRange u) (h : tokS u = (x, e, n)) (he : e ≠ 0) (hs : BHead s) : tokS (u ++ s) = (x, e, n) := by
  have hso : ∀ b, s = [] ∨ strOk b (rd s 0) = false := fun b => by
    rcases hs with h | h
    · exact .inl h
    · exact .inr (strOk_blank h)
  have hst : ∀ b, strL b (u ++ s) = strL b u := by
    intro b
    have hl : 0 < u.length := List.length_pos_iff.2 hne
    clear h hb hl hne
    induction u with
    | nil =>
      rcases hso b with rfl | h
      · rfl
      · cases s with
        | nil => rfl
        | cons d s => rw [List.nil_append, strL_cons, if_neg (by rw [rd_head] at h; simp [h])]; rfl
    | cons c r ih =>
      rw [List.cons_append, strL_cons, strL_cons, ih]
  have htk : ∀ b, (u ++ s).take (strL b u) = u.take (strL b u) := fun b => List.take_append_of_le_length (strL_le b u)
  have r0 : rd (u ++ s) ((0 : Nat) : Int) = rd u ((0 : Nat) : Int) := by
    cases u with
    | nil => exact absurd rfl hne
    | cons c r => rfl
  unfold tokS tokAt at h ⊢
  rw [r0]
  by_cases h3 : cls (rd u ((0 : Nat) : Int)) = 3
  · rw [if_pos h3] at h ⊢
    unfold nameAt at h ⊢
    simp only [List.drop_zero] at h ⊢
    rw [hst, htk]
    exact h
  · rw [if_neg h3] at h ⊢
    by_cases h2 : cls (rd u ((0 : Nat) : Int)) = 2
    · rw [if_pos h2] at h ⊢
      unfold numberAt at h ⊢
      simp only [List.drop_zero] at h ⊢
      rw [hst, htk, r0]
      exact h
    · rw [if_neg h2] at h ⊢
      by_cases h4 : cls (rd u ((0 : Nat) : Int)) = 4
      · rw [if_pos h4] at h ⊢
        unfold signAt at h ⊢
        simp only [List.drop_zero] at h ⊢
        rw [r0]
        by_cases ht : 0 + 1 < u.length ∧ twoK (strOfNums (u.take 2)) ≠ 0
        · rw [if_pos ht] at h
          obtain ⟨_, e2, _⟩ := tri h
          exact absurd e2.symm he
        · rw [if_neg ht] at h
          rw [if_neg]
          · exact h
          · rintro ⟨l1, l2⟩
            cases u with
            | nil => exact hne rfl
            | cons c r =>
              cases r with
              | nil =>
                cases s with
                | nil => simp at l1
                | cons d s =>
                  rcases hs with hs | hs
                  · cases hs
                  · exact l2 (two_blank (hb 0) hs)
              | cons d r => exact ht ⟨by simp, l2⟩
      · rw [if_neg h4] at h ⊢
        exact h
theorem stop_ext {u s : List Int} (hne : u ≠ []) (h : skipL false u = (0, true)) (hs : BHead s) : skipL false (u ++ s) = (0, true) := by
  have h1 : 0 < u.length := List.length_pos_iff.2 hne
  have := stop_pre (u := u) (s := s) (n := u.length) h1 (Nat.le_refl _) h (hs.after _ _)
  rwa [List.take_length] at this
end Go.Proofs.Yteenkeccpfgffaa
