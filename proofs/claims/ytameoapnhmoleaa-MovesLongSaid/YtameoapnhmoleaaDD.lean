/- Long chains and circles, plain (chapter 13). -/
import Derived.Test.YtameoapnhmoleaaDA
import Derived.Test.YtameoapnhmoleaaPF
set_option linter.unusedVariables false
set_option linter.unusedSimpArgs false
namespace Go.Proofs.Ytameoapnhmoleaa
open Go.RowKit Go.Proofs.YtameoapnhmoleaaW.PrintWords Go.Proofs.YtameoapnhmoleaaW.PrintLast Go.Proofs.YtameoapnhmoleaaW.PrintMore
open PP

def rn (n : Nat) : S24 := ⟨1, n⟩
theorem rn_inj {a b : Nat} (h : rn a = rn b) : a = b := by
  have := congrArg S24.f1 h
  simp only [rn] at this
  omega
def chF : Nat → Nat → List Mv
  | _, 0 => []
  | a, n + 1 => ⟨rn a, rn (a + 1)⟩ :: chF (a + 1) n
theorem chF_len : ∀ (n a : Nat), (chF a n).length = n
  | 0, a => rfl
  | n + 1, a => by rw [chF, List.length_cons, chF_len n]
theorem chF_get : ∀ (n a i : Nat), i < n → (chF a n)[i]? = some ⟨rn (a + i), rn (a + i + 1)⟩
  | 0, a, i, h => by omega
  | n + 1, a, 0, h => by rw [chF]; rfl
  | n + 1, a, i + 1, h => by
    rw [chF, List.getElem?_cons_succ, chF_get n (a + 1) i (by omega)]
    congr 2 <;> (congr 1; omega)
theorem chF_mem {n a : Nat} {x : Mv} (h : x ∈ chF a n) : ∃ i, i < n ∧ x = ⟨rn (a + i), rn (a + i + 1)⟩ := by
  obtain ⟨i, hi⟩ := List.getElem?_of_mem h
  have hl := (List.getElem?_eq_some_iff.1 hi).1
  rw [chF_len] at hl
  rw [chF_get n a i hl] at hi
  injection hi with hi
  exact ⟨i, hl, hi.symm⟩
theorem chF_in {n a i : Nat} (h : i < n) : (⟨rn (a + i), rn (a + i + 1)⟩ : Mv) ∈ chF a n := List.mem_of_getElem? (chF_get n a i h)
theorem unread {l : List Mv} {p : S24} (h : ∀ x ∈ l, x.f1 ≠ p) : readB l p = false := by
  cases hr : readB l p
  · rfl
  · obtain ⟨x, hx, e⟩ := readB_iff.1 hr
    exact absurd e (h x hx)
theorem isread {l : List Mv} {p : S24} {x : Mv} (hx : x ∈ l) (e : x.f1 = p) : readB l p = true := readB_iff.2 ⟨x, hx, e⟩
/-- Handed in from its beginning. -/
theorem ends_F (T : S24) : ∀ (n a : Nat), Ends T (chF a n) (chF a n)
  | 0, a => Ends.nil
  | n + 1, a => by
    rw [chF]
    refine Ends.put [] (chF (a + 1) n) ⟨rn a, rn (a + 1)⟩ _ (fun x hx => by cases hx) (unread fun x hx e => ?_) (ends_F T n (a + 1))
    rcases List.mem_cons.1 hx with rfl | hx
    · have := rn_inj e; omega
    · obtain ⟨i, hi, rfl⟩ := chF_mem hx
      have := rn_inj e; omega
/-- Handed in from its end. -/
theorem ends_R (T : S24) : ∀ (n a : Nat), Ends T (chF a n).reverse (chF a n)
  | 0, a => Ends.nil
  | n + 1, a => by
    rw [chF, List.reverse_cons]
    refine Ends.put (chF (a + 1) n).reverse [] ⟨rn a, rn (a + 1)⟩ _ (fun x hx => ?_) (unread fun x hx e => ?_) (by rw [List.append_nil]; exact ends_R T n (a + 1))
    · rw [List.mem_reverse] at hx
      obtain ⟨i, hi, rfl⟩ := chF_mem hx
      cases i with
      | zero => exact isread (x := ⟨rn a, rn (a + 1)⟩) (by simp) rfl
      | succ i => exact isread (x := ⟨rn (a + 1 + i), rn (a + 1 + i + 1)⟩) (by rw [List.mem_append, List.mem_reverse]; exact .inl (chF_in (by omega))) (by congr 1)
    · rcases List.mem_append.1 hx with hx | hx
      · rw [List.mem_reverse] at hx
        obtain ⟨i, hi, rfl⟩ := chF_mem hx
        have := rn_inj e; omega
      · simp at hx
        subst hx
        have := rn_inj e; omega
/-- A circle, from its beginning, when it is broken. -/
theorem ends_C1 (T : S24) (hT : T.f0 ≠ 1) (N : Nat) (hN : 2 ≤ N) : ∀ (d a : Nat), 1 ≤ a → a + d = N - 1 → Ends T (⟨rn 0, T⟩ :: (chF a d ++ [⟨rn (N - 1), rn 0⟩])) (chF a d ++ [⟨rn (N - 1), rn 0⟩, ⟨rn 0, T⟩])
  | 0, a, h1, h => by
    have hne : ∀ j, T ≠ rn j := fun j e => hT (by rw [e]; rfl)
    refine Ends.put [⟨rn 0, T⟩] [] ⟨rn (N - 1), rn 0⟩ _ (fun x hx => ?_) (unread fun x hx e => ?_) (Ends.put [] [] ⟨rn 0, T⟩ _ (fun x hx => by cases hx) (unread fun x hx e => ?_) Ends.nil)
    · simp at hx
      subst hx
      exact isread (x := ⟨rn (N - 1), rn 0⟩) (by simp) rfl
    · simp at hx
      rcases hx with rfl | rfl
      · exact hne _ e
      · have := rn_inj e; omega
    · simp at hx
      subst hx
      exact hne _ e
  | d + 1, a, h1, h => by
    have hne : ∀ j, T ≠ rn j := fun j e => hT (by rw [e]; rfl)
    rw [chF]
    refine Ends.put [⟨rn 0, T⟩] (chF (a + 1) d ++ [⟨rn (N - 1), rn 0⟩]) ⟨rn a, rn (a + 1)⟩ _ (fun x hx => ?_) (unread fun x hx e => ?_) (ends_C1 T hT N hN d (a + 1) (by omega) (by omega))
    · simp at hx
      subst hx
      exact isread (x := ⟨rn (N - 1), rn 0⟩) (by simp) rfl
    · simp at hx
      rcases hx with rfl | rfl | hx | rfl
      · exact hne _ e
      · have := rn_inj e; omega
      · obtain ⟨i, hi, rfl⟩ := chF_mem hx
        have := rn_inj e; omega
      · have := rn_inj e; omega
theorem ends_C (T : S24) (hT : T.f0 ≠ 1) (N : Nat) (hN : 2 ≤ N) : Ends T (chF 0 (N - 1) ++ [⟨rn (N - 1), rn 0⟩]) (⟨T, rn 1⟩ :: (chF 1 (N - 2) ++ [⟨rn (N - 1), rn 0⟩, ⟨rn 0, T⟩])) := by
  obtain ⟨n, rfl⟩ : ∃ n, N = n + 2 := ⟨N - 2, by omega⟩
  rw [show n + 2 - 1 = n + 1 from rfl, show n + 2 - 2 = n from rfl, chF, List.cons_append]
  refine Ends.brk (chF 1 n ++ [⟨rn (n + 1), rn 0⟩]) ⟨rn 0, rn 1⟩ _ (fun x hx => ?_) (ends_C1 T hT (n + 2) hN n 1 (by omega) (by omega))
  simp at hx
  rcases hx with rfl | hx | rfl
  · exact isread (x := ⟨rn (n + 1), rn 0⟩) (by simp) rfl
  · obtain ⟨i, hi, rfl⟩ := chF_mem hx
    cases i with
    | zero => exact isread (x := ⟨rn 0, rn 1⟩) (by simp) rfl
    | succ i => exact isread (x := ⟨rn (1 + i), rn (1 + i + 1)⟩) (by simp; exact .inr (.inl (chF_in (by omega)))) (by congr 1)
  · cases n with
    | zero => exact isread (x := ⟨rn 0, rn 1⟩) (by simp) rfl
    | succ n => exact isread (x := ⟨rn (1 + n), rn (1 + n + 1)⟩) (by simp; exact .inr (.inl (chF_in (by omega)))) (by show rn _ = rn _; congr 1; omega)
theorem ends_D1 (T : S24) (hT : T.f0 ≠ 1) (N : Nat) (hN : 2 ≤ N) : ∀ (d a : Nat), a + d = N - 1 → Ends T (⟨rn (N - 1), T⟩ :: (chF a d).reverse) (chF a d ++ [⟨rn (N - 1), T⟩])
  | 0, a, h => by
    have hne : ∀ j, T ≠ rn j := fun j e => hT (by rw [e]; rfl)
    refine Ends.put [] [] ⟨rn (N - 1), T⟩ _ (fun x hx => by cases hx) (unread fun x hx e => ?_) Ends.nil
    simp at hx
    subst hx
    exact hne _ e
  | d + 1, a, h => by
    have hne : ∀ j, T ≠ rn j := fun j e => hT (by rw [e]; rfl)
    rw [chF, List.reverse_cons, ← List.cons_append]
    refine Ends.put (⟨rn (N - 1), T⟩ :: (chF (a + 1) d).reverse) [] ⟨rn a, rn (a + 1)⟩ _ (fun x hx => ?_) (unread fun x hx e => ?_) (by rw [List.append_nil]; exact ends_D1 T hT N hN d (a + 1) (by omega))
    · simp at hx
      rcases hx with rfl | hx
      · cases d with
        | zero => exact isread (x := ⟨rn a, rn (a + 1)⟩) (by simp) (by show rn _ = rn _; congr 1)
        | succ d => exact isread (x := ⟨rn (a + 1 + d), rn (a + 1 + d + 1)⟩) (by simp; exact .inr (.inl (chF_in (by omega)))) (by show rn _ = rn _; congr 1; omega)
      · obtain ⟨i, hi, rfl⟩ := chF_mem hx
        cases i with
        | zero => exact isread (x := ⟨rn a, rn (a + 1)⟩) (by simp) rfl
        | succ i => exact isread (x := ⟨rn (a + 1 + i), rn (a + 1 + i + 1)⟩) (by simp; exact .inr (.inl (chF_in (by omega)))) (by congr 1)
    · simp at hx
      rcases hx with rfl | hx | rfl
      · exact hne _ e
      · obtain ⟨i, hi, rfl⟩ := chF_mem hx
        have := rn_inj e; omega
      · have := rn_inj e; omega
theorem ends_D (T : S24) (hT : T.f0 ≠ 1) (N : Nat) (hN : 2 ≤ N) : Ends T (⟨rn (N - 1), rn 0⟩ :: (chF 0 (N - 1)).reverse) (⟨T, rn 0⟩ :: (chF 0 (N - 1) ++ [⟨rn (N - 1), T⟩])) := by
  refine Ends.brk (chF 0 (N - 1)).reverse ⟨rn (N - 1), rn 0⟩ _ (fun x hx => ?_) (ends_D1 T hT N hN (N - 1) 0 (by omega))
  have hin : ∀ i, i < N - 1 → (⟨rn i, rn (i + 1)⟩ : Mv) ∈ (⟨rn (N - 1), rn 0⟩ : Mv) :: (chF 0 (N - 1)).reverse := fun i hi => by
    have := chF_in (a := 0) hi
    simp only [Nat.zero_add] at this
    simp [this]
  simp at hx
  rcases hx with rfl | hx
  · exact isread (hin (N - 2) (by omega)) (by show rn _ = rn _; congr 1; omega)
  · obtain ⟨i, hi, rfl⟩ := chF_mem hx
    cases i with
    | zero => exact isread (x := ⟨rn (N - 1), rn 0⟩) (by simp) rfl
    | succ i => exact isread (hin i (by omega)) (by show rn _ = rn _; congr 1; omega)
theorem ends_from {T : S24} {L out : List Mv} (h : Ends T L out) : ∀ m ∈ out, m.f1 = T ∨ m.f1 ∈ L.map (·.f1) := by
  induction h with
  | nil => intro m hm; cases hm
  | put a b m o _ _ _ ih =>
    intro x hx
    rcases List.mem_cons.1 hx with rfl | hx
    · exact .inr (by simp)
    · rcases ih x hx with h | h
      · exact .inl h
      · refine .inr ?_
        rw [List.map_append] at h
        rw [List.map_append, List.map_cons]
        rcases List.mem_append.1 h with h | h <;> simp [h]
  | brk b m o _ _ ih =>
    intro x hx
    rcases List.mem_cons.1 hx with rfl | hx
    · exact .inr (by simp)
    · rcases ih x hx with h | h
      · exact .inl h
      · rw [List.map_cons] at h
        rcases List.mem_cons.1 h with h | h
        · exact .inl h
        · exact .inr (by simp [h])
end Go.Proofs.Ytameoapnhmoleaa
