/- The order of moves, in plain Lean: what both programs do (chapter 13). The invariant of the work state (chapter 13). The work state, built (chapter 13): plain; more facts of the state in memory. The work state in memory: what is left is written (chapter 13). The rounds of Order, plain (chapter 13). moves.Order (chapter 13). The rounds of the document's order, plain (chapter 13). -/
import Derived.Test.YtameoapnhmoleaaX1
import Derived.WalkMore
import Derived.Deep.LoopGhost
set_option linter.unusedVariables false
set_option linter.unusedSimpArgs false
namespace Go.Proofs.Ytameoapnhmoleaa
open Go.RowKit Go.Proofs.YtameoapnhmoleaaW.PrintWords Go.Proofs.YtameoapnhmoleaaW.PrintLast Go.Proofs.YtameoapnhmoleaaW.PrintMore
open PP

instance : DecidableEq S24 := fun a b => decidable_of_iff _ (eqL_iff a b)
theorem nodup_len {α : Type} [DecidableEq α] : ∀ (xs ys : List α), xs.Nodup → (∀ x ∈ xs, x ∈ ys) → xs.length ≤ ys.length
  | [], ys, _, _ => Nat.zero_le _
  | x :: xs, ys, hn, hs => by
    have hx : x ∈ ys := hs x (List.mem_cons_self ..)
    rw [List.nodup_cons] at hn
    have hl := (List.perm_cons_erase hx).length_eq
    have := nodup_len xs (ys.erase x) hn.2 (fun z hz => (List.mem_erase_of_ne (show z ≠ x from by rintro rfl; exact hn.1 hz)).2 (hs z (List.mem_cons_of_mem _ hz)))
    simp only [List.length_cons] at *
    omega
theorem nodup_back {α : Type} [DecidableEq α] : ∀ (xs ys : List α), xs.Nodup → (∀ x ∈ xs, x ∈ ys) → ys.length ≤ xs.length → ∀ y ∈ ys, y ∈ xs
  | [], ys, _, _, hl, y, hy => by
    cases ys with
    | nil => exact hy
    | cons z ys => simp at hl
  | x :: xs, ys, hn, hs, hl, y, hy => by
    have hx : x ∈ ys := hs x (List.mem_cons_self ..)
    rw [List.nodup_cons] at hn
    have hle := (List.perm_cons_erase hx).length_eq
    have := nodup_back xs (ys.erase x) hn.2 (fun z hz => (List.mem_erase_of_ne (show z ≠ x from by rintro rfl; exact hn.1 hz)).2 (hs z (List.mem_cons_of_mem _ hz))) (by simp only [List.length_cons] at *; omega)
    by_cases hyx : y = x
    · rw [hyx]; exact List.mem_cons_self ..
    · exact List.mem_cons_of_mem _ (this y ((List.mem_erase_of_ne hyx).2 hy))
def countR (p : S24) : List Mv → Nat
  | [] => 0
  | m :: l => (if m.f1 = p then 1 else 0) + countR p l
def readB (l : List Mv) (p : S24) : Bool := l.any (fun m => eqL m.f1 p)
theorem countR_append (p : S24) : ∀ a b : List Mv, countR p (a ++ b) = countR p a + countR p b
  | [], b => by simp [countR]
  | m :: a, b => by simp only [List.cons_append, countR, countR_append p a b]; omega
theorem readB_iff {l : List Mv} {p : S24} : readB l p = true ↔ ∃ m ∈ l, m.f1 = p := by
  unfold readB
  rw [List.any_eq_true]
  constructor
  · rintro ⟨m, h1, h2⟩; exact ⟨m, h1, (eqL_iff _ _).1 h2⟩
  · rintro ⟨m, h1, h2⟩; exact ⟨m, h1, (eqL_iff _ _).2 h2⟩
theorem countR_pos {l : List Mv} {p : S24} : 0 < countR p l ↔ readB l p = true := by
  induction l with
  | nil => simp [countR, readB]
  | cons m l ih =>
    rw [countR]
    unfold readB at *
    rw [List.any_cons, Bool.or_eq_true, ← ih, eqL_iff]
    by_cases h : m.f1 = p
    · simp [h]; omega
    · simp [h]
theorem countR_zero {l : List Mv} {p : S24} : countR p l = 0 ↔ readB l p = false := by
  rw [← Bool.not_eq_true, ← countR_pos]
  omega
theorem countR_le (p : S24) : ∀ l : List Mv, countR p l ≤ l.length
  | [] => Nat.le_refl _
  | m :: l => by
    have := countR_le p l
    rw [countR, List.length_cons]
    split <;> omega
/-- What both do: the moves that are left, what is put out. -/
inductive Ends (t : S24) : List Mv → List Mv → Prop
  | nil : Ends t [] []
  | put (a b : List Mv) (m : Mv) (o : List Mv) : (∀ x ∈ a, readB (a ++ m :: b) x.f0 = true) → readB (a ++ m :: b) m.f0 = false → Ends t (a ++ b) o → Ends t (a ++ m :: b) (m :: o)
  | brk (b : List Mv) (m : Mv) (o : List Mv) : (∀ x ∈ m :: b, readB (m :: b) x.f0 = true) → Ends t (⟨m.f0, t⟩ :: b) o → Ends t (m :: b) (⟨t, m.f1⟩ :: o)
theorem split_eq {a a' b b' : List Mv} {m m' : Mv} {R : Mv → Bool} (e : a ++ m :: b = a' ++ m' :: b') (h1 : ∀ x ∈ a, R x = true) (h2 : R m = false) (h1' : ∀ x ∈ a', R x = true) (h2' : R m' = false) : a = a' ∧ m = m' ∧ b = b' := by
  induction a generalizing a' with
  | nil =>
    cases a' with
    | nil => simpa using e
    | cons y a' =>
      simp only [List.nil_append, List.cons_append, List.cons.injEq] at e
      have := h1' y (List.mem_cons_self ..)
      rw [← e.1, h2] at this
      cases this
  | cons x a ih =>
    cases a' with
    | nil =>
      simp only [List.nil_append, List.cons_append, List.cons.injEq] at e
      have := h1 x (List.mem_cons_self ..)
      rw [e.1, h2'] at this
      cases this
    | cons y a' =>
      simp only [List.cons_append, List.cons.injEq] at e
      obtain ⟨r1, r2, r3⟩ := ih e.2 (fun z hz => h1 z (List.mem_cons_of_mem _ hz)) (fun z hz => h1' z (List.mem_cons_of_mem _ hz))
      exact ⟨by rw [e.1, r1], r2, r3⟩
theorem Ends.det {t : S24} {l o1 : List Mv} (h : Ends t l o1) : ∀ {o2 : List Mv}, Ends t l o2 → o1 = o2 := by
  induction h with
  | nil =>
    intro o2 h2
    generalize hl : ([] : List Mv) = l at h2
    cases h2 with
    | nil => rfl
    | put a b m o _ _ _ => cases a <;> simp at hl
    | brk b m o _ _ => cases hl
  | put a b m o h1 h2 h3 ih =>
    intro o2 k
    generalize hl : a ++ m :: b = l at k
    cases k with
    | nil => cases a <;> simp at hl
    | put a' b' m' o' k1 k2 k3 =>
      rw [hl] at h1 h2
      obtain ⟨rfl, rfl, rfl⟩ := split_eq (R := fun x => readB (a' ++ m' :: b') x.f0) hl h1 h2 k1 k2
      rw [ih k3]
    | brk b' m' o' k1 k2 =>
      rw [hl] at h2
      have := k1 m (by rw [← hl]; simp)
      rw [h2] at this
      cases this
  | brk b m o h1 h2 ih =>
    intro o2 k
    generalize hl : m :: b = l at k
    cases k with
    | nil => cases hl
    | put a' b' m' o' k1 k2 k3 =>
      rw [hl] at h1
      have := h1 m' (by simp)
      rw [k2] at this
      cases this
    | brk b' m' o' k1 k2 =>
      cases hl
      rw [ih k2]
def remOf : List Mv → List Int → List Mv
  | m :: l, d :: ds => if d = 0 then m :: remOf l ds else remOf l ds
  | _, _ => []
theorem remOf_append : ∀ (a : List Mv) (c : List Int) (b : List Mv) (f : List Int), a.length = c.length → remOf (a ++ b) (c ++ f) = remOf a c ++ remOf b f
  | [], [], b, f, _ => by simp [remOf]
  | m :: a, d :: c, b, f, h => by
    have ih := remOf_append a c b f (by simpa using h)
    simp only [List.cons_append, remOf, ih]
    split <;> rfl
  | [], _ :: _, _, _, h => by simp at h
  | _ :: _, [], _, _, h => by simp at h
theorem mid {α : Type} (d : α) : ∀ (l : List α) (i : Nat), i < l.length → ∃ a b, l = a ++ l.getD i d :: b ∧ a.length = i
  | [], i, h => by simp at h
  | x :: l, 0, h => ⟨[], l, by simp, rfl⟩
  | x :: l, i + 1, h => by
    obtain ⟨a, b, e, hl⟩ := mid d l i (by simpa using h)
    refine ⟨x :: a, b, ?_, by simp [hl]⟩
    rw [List.getD_cons_succ, List.cons_append, ← e]
theorem set_mid {α : Type} (a b : List α) (x y : α) : (a ++ x :: b).set a.length y = a ++ y :: b := by
  induction a with
  | nil => rfl
  | cons z a ih => simp [ih]
theorem getD_mid {α : Type} (a b : List α) (x d : α) : (a ++ x :: b).getD a.length d = x := by
  simp [List.getD_eq_getElem?_getD]
theorem mem_remOf {x : Mv} : ∀ {l : List Mv} {d : List Int}, x ∈ remOf l d → ∃ i, i < l.length ∧ i < d.length ∧ rd d (i : Nat) = 0 ∧ l.getD i z36 = x
  | [], _, h => by cases ‹List Int› <;> simp [remOf] at h
  | _ :: _, [], h => by simp [remOf] at h
  | m :: l, e :: d, h => by
    rw [remOf] at h
    split at h
    · rename_i h0
      rcases List.mem_cons.1 h with rfl | h
      · exact ⟨0, by simp, by simp, by simp [rd, h0], by simp⟩
      · obtain ⟨i, h1, h2, h3, h4⟩ := mem_remOf h
        rw [rd_nat] at h3
        exact ⟨i + 1, by simpa using h1, by simpa using h2, by rw [rd_nat]; simpa using h3, by simpa using h4⟩
    · obtain ⟨i, h1, h2, h3, h4⟩ := mem_remOf h
      rw [rd_nat] at h3
      exact ⟨i + 1, by simpa using h1, by simpa using h2, by rw [rd_nat]; simpa using h3, by simpa using h4⟩
theorem remOf_sub : ∀ (l : List Mv) (d : List Int), (remOf l d).Sublist l
  | [], d => by cases d <;> simp [remOf]
  | _ :: _, [] => by simp [remOf]
  | m :: l, e :: d => by
    rw [remOf]
    split
    · exact (remOf_sub l d).cons_cons m
    · exact (remOf_sub l d).cons m
theorem remOf_none : ∀ {l : List Mv} {d : List Int}, (∀ i, i < l.length → rd d (i : Nat) ≠ 0) → remOf l d = []
  | [], d, _ => by cases d <;> simp [remOf]
  | _ :: _, [], _ => by simp [remOf]
  | m :: l, e :: d, h => by
    have h0 := h 0 (by simp)
    rw [rd_nat, List.getD_cons_zero] at h0
    rw [remOf, if_neg h0]
    refine remOf_none (fun i hi => ?_)
    have := h (i + 1) (by simpa using hi)
    rw [rd_nat, List.getD_cons_succ] at this
    rwa [rd_nat]
theorem remOf_zero : ∀ (l : List Mv), remOf l (List.replicate l.length 0) = l
  | [] => rfl
  | m :: l => by rw [List.length_cons, List.replicate_succ, remOf, if_pos rfl, remOf_zero l]
end Go.Proofs.Ytameoapnhmoleaa
set_option linter.unusedVariables false
set_option linter.unusedSimpArgs false
namespace Go.Proofs.Ytameoapnhmoleaa
open Go.RowKit Go.Proofs.YtameoapnhmoleaaW.PrintWords Go.Proofs.YtameoapnhmoleaaW.PrintLast Go.Proofs.YtameoapnhmoleaaW.PrintMore
open PP

theorem getD_app {α : Type} {l l' : List α} {d : α} {n : Nat} (h : n < l.length) : (l ++ l').getD n d = l.getD n d := by
  rw [List.getD_eq_getElem?_getD, List.getD_eq_getElem?_getD, List.getElem?_append_left h]
def one (p : S24) : S24 → Nat := fun q => if p = q then 1 else 0
structure PI (t : S24) (n : Nat) (x : S24 → Nat) (y : Int) (s : WS) : Prop where
  lenL : s.left.length = n
  lenD : s.done.length = n
  bin : ∀ d ∈ s.done, d = 0 ∨ d = 1
  nd : (s.left.map (·.f0)).Nodup
  nt : ∀ m ∈ s.left, m.f0 ≠ t
  self : ∀ m ∈ s.left, m.f1 ≠ m.f0
  sets0 : ∀ p, s.sets p = 0 ∨ ∃ i : Nat, s.sets p = (i : Int) + 1 ∧ i < n ∧ (s.left.getD i z36).f0 = p
  sets1 : ∀ i : Nat, i < n → s.sets (s.left.getD i z36).f0 = (i : Int) + 1
  reads : ∀ p, p ≠ t → s.reads p = ((countR p (remOf s.left s.done) + x p : Nat) : Int)
  high : s.reads t ≤ 0
  low : -(s.out.length : Int) + y ≤ s.reads t
  heap : Hp s.ready.length s.ready
  rnd : s.ready.Nodup
  rdy : ∀ k : Int, k ∈ s.ready ↔ ∃ i : Nat, k = (i : Int) ∧ i < n ∧ rd s.done (i : Nat) = 0 ∧ s.reads (s.left.getD i z36).f0 = 0
section
variable {t : S24} {n : Nat} {x : S24 → Nat} {y : Int} {s : WS}
theorem getD_mem {α : Type} {d : α} {l : List α} {i : Nat} (h : i < l.length) : l.getD i d ∈ l := by
  rw [List.getD_eq_getElem?_getD, List.getElem?_eq_getElem h]
  exact List.getElem_mem h
theorem PI.setst (h : PI t n x y s) : s.sets t = 0 := by
  rcases h.sets0 t with e | ⟨i, _, hi, e⟩
  · exact e
  · exact absurd e (h.nt _ (getD_mem (by rw [h.lenL]; exact hi)))
theorem PI.readyLen (h : PI t n x y s) : s.ready.length ≤ n := by
  have := nodup_len s.ready ((List.range n).map (fun i : Nat => (i : Int))) h.rnd (fun k hk => by
    obtain ⟨i, rfl, hi, _⟩ := (h.rdy k).1 hk
    exact List.mem_map.2 ⟨i, List.mem_range.2 hi, rfl⟩)
  simpa using this
theorem PI.remLen (h : PI t n x y s) : (remOf s.left s.done).length ≤ n := by
  have := (remOf_sub s.left s.done).length_le
  rw [h.lenL] at this
  exact this
theorem perm_one {p : S24} : one p p = 1 := by simp [one]
/-- A place is read by one less. -/
theorem free_PI {p : S24} (h : PI t n (one p) 1 s) : PI t n (fun _ => 0) 0 (freeS s p) := by
  by_cases hpt : p = t
  · subst hpt
    have hst := h.setst
    have hfs : freeS s p = { s with reads := upd s.reads p (s.reads p - 1) } := by
      unfold freeS
      rw [if_neg (by rintro ⟨_, h2, _⟩; omega)]
    have hu : ∀ q, q ≠ p → upd s.reads p (s.reads p - 1) q = s.reads q := fun q hq => by unfold upd; rw [if_neg (fun e => hq ((eqL_iff _ _).1 e))]
    have hself : upd s.reads p (s.reads p - 1) p = s.reads p - 1 := upd_self ..
    rw [hfs]
    refine ⟨h.lenL, h.lenD, h.bin, h.nd, h.nt, h.self, h.sets0, h.sets1, ?_, ?_, ?_, h.heap, h.rnd, ?_⟩
    · intro q hq
      show upd s.reads p (s.reads p - 1) q = _
      rw [hu q hq, h.reads q hq]
      simp [one, Ne.symm hq]
    · show upd s.reads p (s.reads p - 1) p ≤ 0
      rw [hself]
      have := h.high
      omega
    · show -(s.out.length : Int) + 0 ≤ upd s.reads p (s.reads p - 1) p
      rw [hself]
      have := h.low
      omega
    · intro k
      rw [h.rdy k]
      constructor
      · rintro ⟨i, h1, h2, h3, h4⟩
        exact ⟨i, h1, h2, h3, by show upd s.reads p _ _ = 0; rw [hu _ (h.nt _ (getD_mem (by rw [h.lenL]; exact h2)))]; exact h4⟩
      · rintro ⟨i, h1, h2, h3, h4⟩
        refine ⟨i, h1, h2, h3, ?_⟩
        have h4 : upd s.reads p (s.reads p - 1) (s.left.getD i z36).f0 = 0 := h4
        rwa [hu _ (h.nt _ (getD_mem (by rw [h.lenL]; exact h2)))] at h4
  · have hrp := h.reads p hpt
    rw [perm_one] at hrp
    have hself : upd s.reads p (s.reads p - 1) p = s.reads p - 1 := upd_self ..
    have hu : ∀ q, q ≠ p → upd s.reads p (s.reads p - 1) q = s.reads q := fun q hq => by unfold upd; rw [if_neg (fun e => hq ((eqL_iff _ _).1 e))]
    have hreads : ∀ q, q ≠ t → upd s.reads p (s.reads p - 1) q = ((countR q (remOf s.left s.done) + 0 : Nat) : Int) := by
      intro q hq
      by_cases hqp : q = p
      · subst hqp
        rw [hself, hrp]
        omega
      · rw [hu q hqp, h.reads q hq]
        simp [one, Ne.symm hqp]
    have htt : upd s.reads p (s.reads p - 1) t = s.reads t := hu t (Ne.symm hpt)
    by_cases hc : s.reads p = 1 ∧ 0 < s.sets p ∧ rd s.done (s.sets p - 1) = 0
    · have hfs : freeS s p = { s with reads := upd s.reads p (s.reads p - 1), ready := pushL s.ready (s.sets p - 1) } := by
        unfold freeS
        rw [if_pos hc]
      obtain ⟨hc1, hc2, hc3⟩ := hc
      obtain ⟨j, hj1, hj2, hj3⟩ : ∃ i : Nat, s.sets p = (i : Int) + 1 ∧ i < n ∧ (s.left.getD i z36).f0 = p := by
        rcases h.sets0 p with e | e
        · omega
        · exact e
      have ej : s.sets p - 1 = (j : Int) := by omega
      rw [ej] at hfs hc3
      obtain ⟨hh, hperm⟩ := push_heap (x := (j : Int)) h.heap
      rw [hfs]
      refine ⟨h.lenL, h.lenD, h.bin, h.nd, h.nt, h.self, h.sets0, h.sets1, hreads, ?_, ?_, hh, ?_, ?_⟩
      · show upd s.reads p _ t ≤ 0; rw [htt]; exact h.high
      · show -(s.out.length : Int) + 0 ≤ upd s.reads p _ t; rw [htt]; have := h.low; omega
      · rw [hperm.nodup_iff, List.nodup_append]
        refine ⟨h.rnd, by simp, ?_⟩
        intro a ha b hb
        simp at hb
        subst hb
        rintro rfl
        obtain ⟨i, h1, h2, h3, h4⟩ := (h.rdy _).1 ha
        have : i = j := by omega
        subst this
        rw [hj3, hc1] at h4
        omega
      · intro k
        rw [hperm.mem_iff, List.mem_append, List.mem_singleton, h.rdy k]
        constructor
        · rintro (⟨i, h1, h2, h3, h4⟩ | rfl)
          · refine ⟨i, h1, h2, h3, ?_⟩
            show upd s.reads p _ _ = 0
            rw [hu _ (fun e => by rw [e, hc1] at h4; omega)]
            exact h4
          · refine ⟨j, rfl, hj2, hc3, ?_⟩
            show upd s.reads p _ _ = 0
            rw [hj3, hself, hc1]
            rfl
        · rintro ⟨i, h1, h2, h3, h4⟩
          have h4 : upd s.reads p (s.reads p - 1) (s.left.getD i z36).f0 = 0 := h4
          by_cases he : (s.left.getD i z36).f0 = p
          · right
            have := h.sets1 i h2
            rw [he] at this
            omega
          · left
            rw [hu _ he] at h4
            exact ⟨i, h1, h2, h3, h4⟩
    · have hfs : freeS s p = { s with reads := upd s.reads p (s.reads p - 1) } := by
        unfold freeS
        rw [if_neg hc]
      rw [hfs]
      refine ⟨h.lenL, h.lenD, h.bin, h.nd, h.nt, h.self, h.sets0, h.sets1, hreads, ?_, ?_, h.heap, h.rnd, ?_⟩
      · show upd s.reads p _ t ≤ 0; rw [htt]; exact h.high
      · show -(s.out.length : Int) + 0 ≤ upd s.reads p _ t; rw [htt]; have := h.low; omega
      · intro k
        rw [h.rdy k]
        constructor
        · rintro ⟨i, h1, h2, h3, h4⟩
          refine ⟨i, h1, h2, h3, ?_⟩
          show upd s.reads p _ _ = 0
          rw [hu _ (fun e => by rw [e] at h4; omega)]
          exact h4
        · rintro ⟨i, h1, h2, h3, h4⟩
          have h4 : upd s.reads p (s.reads p - 1) (s.left.getD i z36).f0 = 0 := h4
          by_cases he : (s.left.getD i z36).f0 = p
          · exfalso
            rw [he, hself] at h4
            have h5 := h.sets1 i h2
            rw [he] at h5
            exact hc ⟨by omega, by omega, by rw [h5]; have e : (i : Int) + 1 - 1 = (i : Int) := by omega
                                             rw [e]; exact h3⟩
          · rw [hu _ he] at h4
            exact ⟨i, h1, h2, h3, h4⟩
/-- What is left, seen at one number. -/
theorem PI.at_ (h : PI t n x y s) {i : Nat} (hi : i < n) (h0 : rd s.done (i : Nat) = 0) : ∃ a b c f, s.left = a ++ s.left.getD i z36 :: b ∧ s.done = c ++ 0 :: f ∧ a.length = i ∧ c.length = i ∧ remOf s.left s.done = remOf a c ++ s.left.getD i z36 :: remOf b f := by
  obtain ⟨a, b, e1, l1⟩ := mid z36 s.left i (by rw [h.lenL]; exact hi)
  obtain ⟨c, f, e2, l2⟩ := mid (0 : Int) s.done i (by rw [h.lenD]; exact hi)
  rw [rd_nat] at h0
  rw [h0] at e2
  refine ⟨a, b, c, f, e1, e2, l1, l2, ?_⟩
  have : remOf s.left s.done = remOf (a ++ s.left.getD i z36 :: b) (c ++ 0 :: f) := by rw [← e1, ← e2]
  rw [this, remOf_append _ _ _ _ (by omega), remOf, if_pos rfl]
theorem PI.inRem (h : PI t n x y s) {m : Mv} (hm : m ∈ remOf s.left s.done) : m.f0 ≠ t ∧ m.f1 ≠ m.f0 := ⟨h.nt m ((remOf_sub _ _).mem hm), h.self m ((remOf_sub _ _).mem hm)⟩
/-- A move is put. -/
theorem put_PI (h : PI t n (fun _ => 0) 0 s) (hp : 0 < s.ready.length) : ∃ i : Nat, popX s.ready = (i : Int) ∧ i < n ∧ rd s.done (i : Nat) = 0 ∧ (popL s.ready).length + 1 = s.ready.length ∧
    PI t n (one (s.left.getD i z36).f1) 1 { s with ready := popL s.ready, out := s.out ++ [s.left.getD i z36], done := s.done.set i 1 } ∧
    ∃ a b, remOf s.left s.done = a ++ s.left.getD i z36 :: b ∧ remOf s.left (s.done.set i 1) = a ++ b ∧ (∀ m ∈ a, readB (a ++ s.left.getD i z36 :: b) m.f0 = true) ∧ readB (a ++ s.left.getD i z36 :: b) (s.left.getD i z36).f0 = false := by
  obtain ⟨hperm, hh, hleast⟩ := pop_heap h.heap hp
  have hmem : popX s.ready ∈ s.ready := hperm.mem_iff.1 (by simp)
  obtain ⟨i, hi, hin, h0, hr0⟩ := (h.rdy _).1 hmem
  obtain ⟨a, b, c, f, e1, e2, l1, l2, e3⟩ := h.at_ hin h0
  have hnd := hperm.nodup_iff.2 h.rnd
  rw [List.nodup_append] at hnd
  refine ⟨i, hi, hin, h0, ?_⟩
  generalize hm : s.left.getD i z36 = m at *
  have hset : s.done.set i 1 = c ++ 1 :: f := by rw [e2, ← l2]; exact set_mid c f 0 1
  have hrem : remOf s.left (s.done.set i 1) = remOf a c ++ remOf b f := by rw [hset, e1, remOf_append _ _ _ _ (by omega), remOf, if_neg (by decide)]
  have hml : m ∈ s.left := by rw [e1]; simp
  have hrd : ∀ k : Nat, rd (s.done.set i 1) (k : Nat) = 0 ↔ k ≠ i ∧ rd s.done (k : Nat) = 0 := by
    intro k
    rw [rd_nat, rd_nat, List.getD_eq_getElem?_getD, List.getD_eq_getElem?_getD, List.getElem?_set]
    by_cases hk : i = k
    · subst hk
      simp [h.lenD, hin]
    · simp [hk, Ne.symm hk]
  refine ⟨?_, ⟨h.lenL, by simp [h.lenD], ?_, h.nd, h.nt, h.self, h.sets0, h.sets1, ?_, h.high, ?_, hh, hnd.1, ?_⟩, remOf a c, remOf b f, e3, hrem, ?_, ?_⟩
  · have := hperm.length_eq
    simpa using this
  · intro d hd
    rcases List.mem_or_eq_of_mem_set hd with h1 | h1
    · exact h.bin d h1
    · exact .inr h1
  · intro p hpt
    show s.reads p = _
    rw [h.reads p hpt]
    show _ = ((countR p (remOf s.left (s.done.set i 1)) + one m.f1 p : Nat) : Int)
    rw [hrem, e3, countR_append, countR_append, countR]
    unfold one
    omega
  · show -((s.out ++ [m]).length : Int) + 1 ≤ s.reads t
    have := h.low
    simp only [List.length_append, List.length_singleton]
    omega
  · intro k
    show k ∈ popL s.ready ↔ ∃ j : Nat, k = (j : Int) ∧ j < n ∧ rd (s.done.set i 1) (j : Nat) = 0 ∧ s.reads (s.left.getD j z36).f0 = 0
    have hk1 : k ∈ popL s.ready ↔ k ∈ s.ready ∧ k ≠ (i : Int) := by
      rw [← hperm.mem_iff, List.mem_append, List.mem_singleton, hi]
      constructor
      · intro hk
        exact ⟨.inl hk, fun e => hnd.2.2 k hk _ (by rw [List.mem_singleton]) (by rw [e, hi])⟩
      · rintro ⟨hk | hk, hne⟩
        · exact hk
        · exact absurd hk hne
    rw [hk1, h.rdy k]
    constructor
    · rintro ⟨⟨j, h1, h2, h3, h4⟩, hne⟩
      exact ⟨j, h1, h2, (hrd j).2 ⟨by omega, h3⟩, h4⟩
    · rintro ⟨j, h1, h2, h3, h4⟩
      obtain ⟨h5, h6⟩ := (hrd j).1 h3
      exact ⟨⟨j, h1, h2, h6, h4⟩, by omega⟩
  · intro x hx
    rw [← e3, ← countR_pos]
    obtain ⟨j, j1, j2, j3, j4⟩ := mem_remOf hx
    have hjl : (s.left.getD j z36) = x := by
      rw [e1, getD_app j1]; exact j4
    have hjd : rd s.done (j : Nat) = 0 := by
      rw [rd_nat] at j3 ⊢
      rw [e2, getD_app j2]; exact j3
    have hxl : x ∈ s.left := by rw [e1]; exact List.mem_append_left _ ((remOf_sub a c).mem hx)
    have hnr : s.reads x.f0 ≠ 0 := by
      intro he
      have := hleast (j : Int) ((h.rdy _).2 ⟨j, rfl, by omega, hjd, by rw [hjl]; exact he⟩)
      omega
    rw [h.reads _ (h.nt x hxl)] at hnr
    omega
  · rw [← e3, ← countR_zero]
    rw [h.reads _ (h.nt m hml)] at hr0
    omega
/-- A circle is broken. -/
theorem brk_PI (h : PI t n (fun _ => 0) 0 s) (hp : s.ready = []) {i : Nat} (hi : i < n) (h0 : rd s.done (i : Nat) = 0) (hb : ∀ j : Nat, j < i → rd s.done (j : Nat) = 1) :
    PI t n (one (s.left.getD i z36).f1) 1 { s with out := s.out ++ [⟨t, (s.left.getD i z36).f1⟩], left := s.left.set i ⟨(s.left.getD i z36).f0, t⟩ } ∧
    (s.left.getD i z36).f1 ≠ t ∧
    ∃ b, remOf s.left s.done = s.left.getD i z36 :: b ∧ remOf (s.left.set i ⟨(s.left.getD i z36).f0, t⟩) s.done = ⟨(s.left.getD i z36).f0, t⟩ :: b ∧ (∀ m ∈ s.left.getD i z36 :: b, readB (s.left.getD i z36 :: b) m.f0 = true) := by
  obtain ⟨a, b, c, f, e1, e2, l1, l2, e3⟩ := h.at_ hi h0
  have hac : remOf a c = [] := by
    refine remOf_none (fun j hj => ?_)
    have := hb j (by omega)
    rw [rd_nat, e2, getD_app (by omega)] at this
    rw [rd_nat, this]
    decide
  rw [hac, List.nil_append] at e3
  have hall : ∀ m ∈ remOf s.left s.done, readB (remOf s.left s.done) m.f0 = true := by
    intro x hx
    rw [← countR_pos]
    obtain ⟨j, j1, j2, j3, j4⟩ := mem_remOf hx
    have hxl := (remOf_sub s.left s.done).mem hx
    have hnr : s.reads x.f0 ≠ 0 := by
      intro he
      have := (h.rdy (j : Int)).2 ⟨j, rfl, by rw [← h.lenL]; exact j1, j3, by rw [j4]; exact he⟩
      rw [hp] at this
      cases this
    rw [h.reads _ (h.nt x hxl)] at hnr
    omega
  have hnt : ∀ m ∈ remOf s.left s.done, m.f1 ≠ t := by
    intro m hm he
    have hnd : ((remOf s.left s.done).map (·.f0)).Nodup := ((remOf_sub s.left s.done).map _).nodup h.nd
    have := nodup_back _ ((remOf s.left s.done).map (·.f1)) hnd (fun p hp => by
      obtain ⟨m', h1, h2⟩ := List.mem_map.1 hp
      obtain ⟨m2, k1, k2⟩ := readB_iff.1 (hall m' h1)
      exact List.mem_map.2 ⟨m2, k1, k2.trans h2⟩) (by simp) m.f1 (List.mem_map.2 ⟨m, hm, rfl⟩)
    obtain ⟨m', h1, h2⟩ := List.mem_map.1 this
    exact (h.inRem h1).1 (h2.trans he)
  generalize hm : s.left.getD i z36 = m at *
  have hmr : m ∈ remOf s.left s.done := by rw [e3]; exact List.mem_cons_self ..
  have hmt := (h.inRem hmr).1
  have hset : s.left.set i ⟨m.f0, t⟩ = a ++ ⟨m.f0, t⟩ :: b := by rw [e1, ← l1]; exact set_mid a b m _
  have hrem : remOf (s.left.set i ⟨m.f0, t⟩) s.done = ⟨m.f0, t⟩ :: remOf b f := by rw [hset, e2, remOf_append _ _ _ _ (by omega), remOf, if_pos rfl, hac, List.nil_append]
  have hf0 : ∀ k : Nat, ((s.left.set i ⟨m.f0, t⟩).getD k z36).f0 = (s.left.getD k z36).f0 := by
    intro k
    rw [List.getD_eq_getElem?_getD, List.getElem?_set]
    by_cases hk : i = k
    · subst hk
      rw [if_pos rfl, if_pos (by rw [h.lenL]; exact hi), hm]
      rfl
    · rw [if_neg hk, ← List.getD_eq_getElem?_getD]
  have hmap : (s.left.set i ⟨m.f0, t⟩).map (·.f0) = s.left.map (·.f0) := by
    rw [hset]
    conv => rhs; rw [e1]
    simp
  have hmem : ∀ q ∈ s.left.set i ⟨m.f0, t⟩, q ∈ s.left ∨ q = ⟨m.f0, t⟩ := fun q hq => List.mem_or_eq_of_mem_set hq
  refine ⟨⟨by simp [h.lenL], h.lenD, h.bin, by show ((s.left.set i ⟨m.f0, t⟩).map (·.f0)).Nodup; rw [hmap]; exact h.nd, ?_, ?_, ?_, ?_, ?_, h.high, ?_, h.heap, h.rnd, ?_⟩, hnt m hmr, remOf b f, e3, hrem, by rw [← e3]; exact hall⟩
  · intro q hq
    rcases hmem q hq with h1 | h1
    · exact h.nt q h1
    · rw [h1]; exact hmt
  · intro q hq
    rcases hmem q hq with h1 | h1
    · exact h.self q h1
    · rw [h1]; exact fun e => hmt e.symm
  · intro p
    rcases h.sets0 p with e | ⟨k, k1, k2, k3⟩
    · exact .inl e
    · exact .inr ⟨k, k1, k2, by rw [← k3]; exact hf0 k⟩
  · intro k hk
    show s.sets ((s.left.set i ⟨m.f0, t⟩).getD k z36).f0 = _
    rw [hf0 k]
    exact h.sets1 k hk
  · intro p hpt
    show s.reads p = ((countR p (remOf (s.left.set i ⟨m.f0, t⟩) s.done) + one m.f1 p : Nat) : Int)
    rw [h.reads p hpt, hrem, e3, countR, countR, if_neg (Ne.symm hpt)]
    unfold one
    omega
  · show -((s.out ++ [(⟨t, m.f1⟩ : Mv)]).length : Int) + 1 ≤ s.reads t
    have := h.low
    simp only [List.length_append, List.length_singleton]
    omega
  · intro k
    show k ∈ s.ready ↔ ∃ j : Nat, k = (j : Int) ∧ j < n ∧ rd s.done (j : Nat) = 0 ∧ s.reads ((s.left.set i ⟨m.f0, t⟩).getD j z36).f0 = 0
    rw [h.rdy k]
    constructor
    · rintro ⟨j, h1, h2, h3, h4⟩
      exact ⟨j, h1, h2, h3, by rw [hf0]; exact h4⟩
    · rintro ⟨j, h1, h2, h3, h4⟩
      exact ⟨j, h1, h2, h3, by rw [hf0] at h4; exact h4⟩
end
end Go.Proofs.Ytameoapnhmoleaa
set_option linter.unusedVariables false
set_option linter.unusedSimpArgs false
namespace Go.Proofs.Ytameoapnhmoleaa
open Go.RowKit Go.Proofs.YtameoapnhmoleaaW.PrintWords Go.Proofs.YtameoapnhmoleaaW.PrintLast Go.Proofs.YtameoapnhmoleaaW.PrintMore
open PP

def filtL (l : List Mv) : List Mv := l.filter (fun m => !eqL m.f1 m.f0)
theorem filtL_snoc (l : List Mv) (m : Mv) : filtL (l ++ [m]) = if eqL m.f1 m.f0 = true then filtL l else filtL l ++ [m] := by
  unfold filtL
  rw [List.filter_append]
  cases h : eqL m.f1 m.f0 <;> simp [h]
structure BI (k : List Mv) (s : WS) : Prop where
  left : s.left = filtL k
  done : s.done = []
  ready : s.ready = []
  out : s.out = []
  reads : ∀ p, s.reads p = (countR p (filtL k) : Nat)
  sets0 : ∀ p, s.sets p = 0 ∨ ∃ i : Nat, s.sets p = (i : Int) + 1 ∧ i < (filtL k).length ∧ ((filtL k).getD i z36).f0 = p
  sets1 : ∀ i : Nat, i < (filtL k).length → s.sets ((filtL k).getD i z36).f0 = (i : Int) + 1
theorem BI.nil : BI [] ⟨[], [], fun _ => 0, fun _ => 0, [], []⟩ := ⟨rfl, rfl, rfl, rfl, fun _ => rfl, fun _ => .inl rfl, fun i hi => by simp [filtL] at hi⟩
theorem BI.skip {k : List Mv} {s : WS} {m : Mv} (h : BI k s) (he : eqL m.f1 m.f0 = true) : BI (k ++ [m]) s := by
  have e : filtL (k ++ [m]) = filtL k := by rw [filtL_snoc, if_pos he]
  exact ⟨by rw [e]; exact h.left, h.done, h.ready, h.out, by rw [e]; exact h.reads, by rw [e]; exact h.sets0, by rw [e]; exact h.sets1⟩
def addS (s : WS) (m : Mv) : WS := { s with left := s.left ++ [m], reads := upd s.reads m.f1 (s.reads m.f1 + 1), sets := upd s.sets m.f0 ((s.left.length + 1 : Nat) : Int) }
theorem BI.step {k : List Mv} {s : WS} {m : Mv} (h : BI k s) (he : eqL m.f1 m.f0 = false) (hn : m.f0 ∉ (filtL k).map (·.f0)) : BI (k ++ [m]) (addS s m) := by
  have e : filtL (k ++ [m]) = filtL k ++ [m] := by rw [filtL_snoc, if_neg (by rw [he]; decide)]
  have hl : s.left.length = (filtL k).length := by rw [h.left]
  have hg : ∀ i, i < (filtL k).length → (filtL k ++ [m]).getD i z36 = (filtL k).getD i z36 := fun i hi => getD_app hi
  have hne : ∀ i, i < (filtL k).length → ((filtL k).getD i z36).f0 ≠ m.f0 := fun i hi he => hn (List.mem_map.2 ⟨_, getD_mem hi, he⟩)
  have hgl : (filtL k ++ [m]).getD (filtL k).length z36 = m := getD_mid (filtL k) [] m z36
  refine ⟨by rw [e]; show s.left ++ [m] = _; rw [h.left], h.done, h.ready, h.out, ?_, ?_, ?_⟩
  · intro p
    rw [e, countR_append]
    show upd s.reads m.f1 (s.reads m.f1 + 1) p = _
    unfold upd
    by_cases hp : eqL p m.f1 = true
    · rw [if_pos hp]
      have := (eqL_iff _ _).1 hp
      subst this
      rw [h.reads, countR, countR, if_pos rfl]
      omega
    · rw [if_neg hp, h.reads, countR, countR, if_neg (fun e => hp ((eqL_iff _ _).2 e.symm))]
      simp
  · intro p
    rw [e]
    show upd s.sets m.f0 _ p = 0 ∨ ∃ i : Nat, upd s.sets m.f0 _ p = (i : Int) + 1 ∧ _
    by_cases hp : eqL p m.f0 = true
    · right
      refine ⟨(filtL k).length, ?_, by simp, ?_⟩
      · unfold upd; rw [if_pos hp, hl]; omega
      · rw [hgl]; exact ((eqL_iff _ _).1 hp).symm
    · have hu : ∀ v, upd s.sets m.f0 v p = s.sets p := fun v => by unfold upd; rw [if_neg hp]
      rcases h.sets0 p with h0 | ⟨i, h1, h2, h3⟩
      · left; rw [hu]; exact h0
      · right
        exact ⟨i, by rw [hu]; exact h1, by simp; omega, by rw [hg i h2]; exact h3⟩
  · intro i hi
    rw [e] at hi ⊢
    show upd s.sets m.f0 _ _ = _
    by_cases hil : i < (filtL k).length
    · rw [hg i hil]
      unfold upd
      rw [if_neg (fun e => hne i hil ((eqL_iff _ _).1 e))]
      exact h.sets1 i hil
    · have : i = (filtL k).length := by simp at hi; omega
      subst this
      rw [hgl]
      unfold upd
      rw [if_pos (eqL_self _), hl]
      omega
/-- What is ready, of the first j. -/
structure RI (n j : Nat) (s : WS) : Prop where
  heap : Hp s.ready.length s.ready
  rnd : s.ready.Nodup
  rdy : ∀ k : Int, k ∈ s.ready ↔ ∃ i : Nat, k = (i : Int) ∧ i < j ∧ s.reads (s.left.getD i z36).f0 = 0
theorem RI.nil {n : Nat} {s : WS} (h : s.ready = []) : RI n 0 s := ⟨by rw [h]; intro i _ hi; simp at hi, by rw [h]; exact List.nodup_nil, fun k => by rw [h]; simp⟩
theorem RI.skip {n j : Nat} {s : WS} (h : RI n j s) (hr : s.reads (s.left.getD j z36).f0 ≠ 0) : RI n (j + 1) s := ⟨h.heap, h.rnd, fun k => by
  rw [h.rdy k]
  constructor
  · rintro ⟨i, h1, h2, h3⟩; exact ⟨i, h1, by omega, h3⟩
  · rintro ⟨i, h1, h2, h3⟩
    refine ⟨i, h1, ?_, h3⟩
    rcases Nat.lt_or_ge i j with h4 | h4
    · exact h4
    · obtain rfl : i = j := by omega
      exact absurd h3 hr⟩
theorem RI.push {n j : Nat} {s : WS} (h : RI n j s) (hr : s.reads (s.left.getD j z36).f0 = 0) : RI n (j + 1) { s with ready := pushL s.ready (j : Int) } := by
  obtain ⟨hh, hperm⟩ := push_heap (x := (j : Int)) h.heap
  refine ⟨hh, ?_, fun k => ?_⟩
  · rw [hperm.nodup_iff, List.nodup_append]
    refine ⟨h.rnd, by simp, ?_⟩
    intro a ha b hb
    simp at hb
    subst hb
    rintro rfl
    obtain ⟨i, h1, h2, h3⟩ := (h.rdy _).1 ha
    omega
  · rw [hperm.mem_iff, List.mem_append, List.mem_singleton, h.rdy k]
    constructor
    · rintro (⟨i, h1, h2, h3⟩ | rfl)
      · exact ⟨i, h1, by omega, h3⟩
      · exact ⟨j, rfl, by omega, hr⟩
    · rintro ⟨i, h1, h2, h3⟩
      rcases Nat.lt_or_ge i j with h4 | h4
      · exact .inl ⟨i, h1, h4, h3⟩
      · exact .inr (by omega)
theorem rd_rep (n i : Nat) (h : i < n) : rd (List.replicate n (0 : Int)) (i : Nat) = 0 := by
  rw [rd_nat, List.getD_eq_getElem?_getD]
  simp [h]
/-- All is built. -/
theorem PI.start {t : S24} {l : List Mv} {s s' : WS} (h : BI l s) (hnd : (l.map (·.f0)).Nodup) (hnt : ∀ m ∈ l, m.f0 ≠ t) (hnf : ∀ m ∈ l, m.f1 ≠ t) (hR : RI s'.left.length s'.left.length s') (hl : s'.left = s.left) (hr : s'.reads = s.reads) (hs : s'.sets = s.sets) (hd : s'.done = List.replicate s'.left.length 0) (ho : s'.out = []) :
    PI t s'.left.length (fun _ => 0) 0 s' := by
  have hsub : (filtL l).Sublist l := List.filter_sublist
  have hleft : s'.left = filtL l := by rw [hl, h.left]
  have hzero : s'.reads t = 0 := by
    rw [hr, h.reads]
    have : countR t (filtL l) = 0 := by
      rw [countR_zero, ← Bool.not_eq_true, readB_iff]
      rintro ⟨m, hm, he⟩
      exact hnf m (hsub.mem hm) he
    omega
  refine ⟨rfl, by rw [hd]; simp, ?_, by rw [hleft]; exact (hsub.map _).nodup hnd, ?_, ?_, ?_, ?_, ?_, by omega, by rw [ho, hzero]; simp, hR.heap, hR.rnd, ?_⟩
  · intro d hd'
    rw [hd] at hd'
    exact .inl (List.eq_of_mem_replicate hd')
  · intro m hm
    rw [hleft] at hm
    exact hnt m (hsub.mem hm)
  · intro m hm he
    rw [hleft] at hm
    have := (List.mem_filter.1 hm).2
    rw [(eqL_iff _ _).2 he] at this
    cases this
  · intro p
    rw [hs, hleft]
    exact h.sets0 p
  · rw [hs, hleft]
    exact h.sets1
  · intro p _
    rw [hd, remOf_zero, hr, h.reads, hleft]
    simp
  · intro k
    rw [hR.rdy k]
    constructor
    · rintro ⟨i, h1, h2, h3⟩
      exact ⟨i, h1, h2, by rw [hd]; exact rd_rep _ i h2, h3⟩
    · rintro ⟨i, h1, h2, _, h3⟩
      exact ⟨i, h1, h2, h3⟩
/-- How much is to be done. -/
def meas (t : S24) : List Mv → Nat
  | [] => 0
  | m :: l => (if m.f1 = t then 1 else 2) + meas t l
theorem meas_append (t : S24) : ∀ a b : List Mv, meas t (a ++ b) = meas t a + meas t b
  | [], b => by simp [meas]
  | m :: a, b => by simp only [List.cons_append, meas, meas_append t a b]; omega
theorem meas_le (t : S24) : ∀ l : List Mv, meas t l ≤ 2 * l.length
  | [] => by simp [meas]
  | m :: l => by
    have := meas_le t l
    rw [meas, List.length_cons]
    split <;> omega
theorem meas_pos (t : S24) : ∀ {l : List Mv}, l ≠ [] → 0 < meas t l
  | [], h => absurd rfl h
  | m :: l, _ => by
    rw [meas]
    split <;> omega
end Go.Proofs.Ytameoapnhmoleaa
set_option linter.unusedVariables false
set_option linter.unusedSimpArgs false
namespace Go.Proofs.Ytameoapnhmoleaa
open Go.RowKit Go.Proofs.YtameoapnhmoleaaW.PrintWords Go.Proofs.YtameoapnhmoleaaW.PrintLast Go.Proofs.YtameoapnhmoleaaW.PrintMore
open PP
section
variable {w w' w1 : World} {base B : Nat} {s : WS} {vl vd vr vo vl1 vd1 : Value} {r t : Nat} {x : Mv}
/-- A move has been added. -/
theorem IsWV.lefted (h : IsWV w base B s vl vd vr vo r t) (hb : base ≤ w.heap.size) (hR : k36.R 36 w1 base (fun _ => True) vl1 (s.left ++ [x])) (hg : w.grownBy w1 vl.ownBlock) (hat : vl1.ownBlock = vl.ownBlock ∨ ∃ b, vl1.ownBlock = some b ∧ w.heap.size ≤ b) :
    IsWV (w1.setCell ⟨B, 0, none⟩ vl1) base B { s with left := s.left ++ [x] } vl1 vd vr vo r t ∧ Fr w (w1.setCell ⟨B, 0, none⟩ vl1) (fun k => k = B ∨ some k = vl.ownBlock) := by
  have hneB : vl.ownBlock ≠ some B := row_ne h.left h.blk (by decide)
  have hb1 : w1.heap[B]? = _ := (hg.block B h.lt (Ne.symm hneB)).trans h.blk
  have hne1 : vl1.ownBlock ≠ some B := by
    rcases hat with e | ⟨b, e, hb2⟩
    · rwa [e]
    · rw [e]
      intro he
      cases he
      have := h.lt
      omega
  have hS : ∀ q, q < w.heap.size → q ≠ B → vl.ownBlock ≠ some q → (w1.setCell ⟨B, 0, none⟩ vl1).heap[q]? = w.heap[q]? := fun q hq h1 h2 => (Below.heap_setCell w1 ⟨B, 0, none⟩ vl1 q h1).trans (hg.block q hq (Ne.symm h2))
  have rows : ∀ {α : Type} {d : Kd α} {e : Nat} {ok : Nat → Prop} {v : Value} {xs : List α}, d.R e w base ok v xs → e ≠ 56 → (∀ k, v.ownBlock = some k → vl.ownBlock ≠ some k) → ∀ k, v.ownBlock = some k → (w1.setCell ⟨B, 0, none⟩ vl1).heap[k]? = w.heap[k]? := fun h2 he hn k hk => hS k (IsWV.rowlt h2 k hk) (fun e => row_ne h2 h.blk he (e ▸ hk)) (hn k hk)
  refine ⟨⟨blk_set hb1 0 vl1, h.bB, h.br, h.bt, h.rt, ?_, ?_, ?_, ?_, ?_, ?_, ?_, h.ne2⟩, ?_⟩
  · exact R_flat flat36 hR (fun k hk => Below.heap_setCell w1 ⟨B, 0, none⟩ vl1 k (fun e => hne1 (by rw [hk]; exact congrArg some e))) (fun _ _ => trivial)
  · exact R_flat flatI h.done (rows h.done (by decide) (row_ne_row h.done h.left (by decide))) (fun _ _ => trivial)
  · exact R_flat flatI h.ready (rows h.ready (by decide) (row_ne_row h.ready h.left (by decide))) (fun _ _ => trivial)
  · exact R_flat flat36 h.out (rows h.out (by decide) (fun k hk hk' => h.ne1 k hk' hk)) (fun _ _ => trivial)
  · exact h.reads.kept (hS r h.reads.lt (fun e => not_map h.reads h.blk e.symm) (fun e => row_ne_map h.left h.reads r e rfl))
  · exact h.sets.kept (hS t h.sets.lt (fun e => not_map h.sets h.blk e.symm) (fun e => row_ne_map h.left h.sets t e rfl))
  · intro k hk hk'
    rcases hat with e | ⟨b, e, hb2⟩
    · exact h.ne1 k (e ▸ hk) hk'
    · rw [e] at hk
      cases hk
      have := IsWV.rowlt h.out _ hk'
      omega
  · exact Fr.set (p := ⟨B, 0, none⟩) (Fr.of_grown hg (fun k hk => .inr hk.symm)) (.inl (.inl rfl)) vl1
theorem IsWV.outed_fr {vo1 : Value} (hg : w.grownBy w1 vo.ownBlock) : Fr w (w1.setCell ⟨B, 5, none⟩ vo1) (fun k => k = B ∨ some k = vo.ownBlock) := Fr.set (S := fun k => k = B ∨ some k = vo.ownBlock) (p := ⟨B, 5, none⟩) (Fr.of_grown hg (fun k hk => .inr hk.symm)) (.inl (.inl rfl)) vo1
/-- The marks are made. -/
theorem IsWV.made (h : IsWV w base B s vl vd vr vo r t) (hR : kI.R 3 w1 base (fun _ => True) vd1 (List.replicate s.left.length 0)) (hg : w.grownBy w1 none) (hat : ∃ b, vd1.ownBlock = some b ∧ w.heap.size ≤ b) :
    IsWV (w1.setCell ⟨B, 1, none⟩ vd1) base B { s with done := List.replicate s.left.length 0 } vl vd1 vr vo r t ∧ Fr w (w1.setCell ⟨B, 1, none⟩ vd1) (fun k => k = B) := by
  obtain ⟨b, e, hb2⟩ := hat
  have hb1 : w1.heap[B]? = _ := (hg.block B h.lt (by simp)).trans h.blk
  have hne1 : vd1.ownBlock ≠ some B := by
    rw [e]
    intro he
    cases he
    have := h.lt
    omega
  have hS : ∀ q, q < w.heap.size → q ≠ B → (w1.setCell ⟨B, 1, none⟩ vd1).heap[q]? = w.heap[q]? := fun q hq h1 => (Below.heap_setCell w1 ⟨B, 1, none⟩ vd1 q h1).trans (hg.block q hq (by simp))
  have rows : ∀ {α : Type} {d : Kd α} {e : Nat} {ok : Nat → Prop} {v : Value} {xs : List α}, d.R e w base ok v xs → e ≠ 56 → ∀ k, v.ownBlock = some k → (w1.setCell ⟨B, 1, none⟩ vd1).heap[k]? = w.heap[k]? := fun h2 he k hk => hS k (IsWV.rowlt h2 k hk) (fun e => row_ne h2 h.blk he (e ▸ hk))
  refine ⟨⟨blk_set hb1 1 vd1, h.bB, h.br, h.bt, h.rt, R_flat flat36 h.left (rows h.left (by decide)) (fun _ _ => trivial), ?_, R_flat flatI h.ready (rows h.ready (by decide)) (fun _ _ => trivial), R_flat flat36 h.out (rows h.out (by decide)) (fun _ _ => trivial),
    h.reads.kept (hS r h.reads.lt (fun e => not_map h.reads h.blk e.symm)), h.sets.kept (hS t h.sets.lt (fun e => not_map h.sets h.blk e.symm)), h.ne1, ?_⟩, Fr.set (S := fun k => k = B) (p := ⟨B, 1, none⟩) (Fr.of_grown hg (fun k hk => by cases hk)) (.inl rfl) vd1⟩
  · exact R_flat flatI hR (fun k hk => Below.heap_setCell w1 ⟨B, 1, none⟩ vd1 k (fun e => hne1 (by rw [hk]; exact congrArg some e))) (fun _ _ => trivial)
  · intro k hk hk'
    rw [e] at hk
    cases hk
    have := IsWV.rowlt h.ready _ hk'
    omega
/-- A move that is left reads another place. -/
theorem IsWV.leftset {g n c : Nat} (h : IsWV w base B s (.slice (some ⟨g, 0, none⟩) n c) vd vr vo r t) (i : Nat) (hi : i < n) (p q : Int) :
    (∃ u, w.cell? ⟨g, i * 4 + 2, none⟩ = some u) ∧ (∃ u, w.cell? ⟨g, i * 4 + 2 + 1, none⟩ = some u) ∧ w.frozen? ⟨g, i * 4 + 2, none⟩ = false ∧ w.frozen? ⟨g, i * 4 + 2 + 1, none⟩ = false ∧
    IsWV ((w.setCell ⟨g, i * 4 + 2, none⟩ (.int .i64 p)).setCell ⟨g, i * 4 + 2 + 1, none⟩ (.int .i64 q)) base B { s with left := s.left.set i ⟨(s.left.getD i z36).f0, ⟨p, q⟩⟩ } (.slice (some ⟨g, 0, none⟩) n c) vd vr vo r t ∧ Fr w ((w.setCell ⟨g, i * 4 + 2, none⟩ (.int .i64 p)).setCell ⟨g, i * 4 + 2 + 1, none⟩ (.int .i64 q)) (fun k => k = g) := by
  obtain ⟨A, c', e, hnc, hC⟩ := Kd.R_reads h.left
  have e1 := e
  injection e1 with ea en ec
  subst ea ec
  rw [← en] at hC
  obtain ⟨ad, hA, p0, p1, p2, p3⟩ := mv_cells hC i hi
  cases hA
  have ho : (Value.slice (some ⟨g, 0, none⟩) n c).ownBlock = some g := by simp [Value.ownBlock]
  obtain ⟨hrow, hg⟩ := Kd.R_seg (d := k36) (x' := (⟨(s.left.getD i z36).f0, ⟨p, q⟩⟩ : Mv)) (okp := fun _ => False) h.left (i : Int) (by omega) (by omega)
    (c := [.int .i64 (s.left.getD i z36).f0.f0, .int .i64 (s.left.getD i z36).f0.f1, .int .i64 (s.left.getD i z36).f1.f0, .int .i64 (s.left.getD i z36).f1.f1]) (seg := [.int .i64 p, .int .i64 q]) (j := 2) rfl
    (fun j u hu => by
      have h4 : j < 4 := by
        have := (List.getElem?_eq_some_iff.1 hu).1
        simpa using this
      rw [Int.toNat_natCast]
      rw [add_plain] at p0 p1 p2 p3
      simp only [Nat.zero_add] at p0 p1 p2 p3
      match j, h4 with
      | 0, _ => cases hu; exact p0
      | 1, _ => cases hu; exact p1
      | 2, _ => cases hu; exact p2
      | 3, _ => cases hu; exact p3)
    (by show 2 + 2 ≤ 4; decide) (by exact k36_mem _ _ _ _) (fun _ hk => hk.elim)
  obtain ⟨_, cells, hcb⟩ := row_block h.left ho
  rw [Int.toNat_natCast] at hrow hg
  rw [add_plain] at p2 p3
  simp only [Nat.zero_add] at p2 p3
  refine ⟨⟨_, p2⟩, ⟨_, p3⟩, blk_frozen hcb _, blk_frozen hcb _, ?_⟩
  suffices hh : IsWV (w.setCells g (i * 4 + 2) [.int .i64 p, .int .i64 q]) base B { s with left := s.left.set i ⟨(s.left.getD i z36).f0, ⟨p, q⟩⟩ } (.slice (some ⟨g, 0, none⟩) n c) vd vr vo r t ∧ Fr w (w.setCells g (i * 4 + 2) [.int .i64 p, .int .i64 q]) (fun k => k = g) from hh
  refine ⟨?_, Fr.of_grown hg (fun k hk => by cases hk; rfl)⟩
  have hgB : g ≠ B := fun e => row_ne h.left h.blk (by decide) (by rw [ho, e])
  have hS : ∀ k, k < w.heap.size → k ≠ g → (w.setCells g (i * 4 + 2) [.int .i64 p, .int .i64 q]).heap[k]? = w.heap[k]? := fun k hk hne => hg.block k hk (by simpa using hne)
  refine ⟨(hS B h.lt hgB.symm).trans h.blk, h.bB, h.br, h.bt, h.rt, hrow, ?_, ?_, ?_, ?_, ?_, h.ne1, h.ne2⟩
  · exact R_flat flatI h.done (fun k hk => hS k (IsWV.rowlt h.done k hk) (fun e => row_ne_row h.done h.left (by decide) k hk (by rw [ho, e]))) (fun _ _ => trivial)
  · exact R_flat flatI h.ready (fun k hk => hS k (IsWV.rowlt h.ready k hk) (fun e => row_ne_row h.ready h.left (by decide) k hk (by rw [ho, e]))) (fun _ _ => trivial)
  · exact R_flat flat36 h.out (fun k hk => hS k (IsWV.rowlt h.out k hk) (fun e => h.ne1 k (by rw [ho, e]) hk)) (fun _ _ => trivial)
  · exact h.reads.kept (hS r h.reads.lt (fun e => row_ne_map h.left h.reads g ho e.symm))
  · exact h.sets.kept (hS t h.sets.lt (fun e => row_ne_map h.left h.sets g ho e.symm))
end
/-- A store at a step of a region, by its run. -/
theorem store_step {P : Program} {ops : Array Oper} {o : Oper} {a : Act} {Q : Exit → Act → World → Prop} {Kc : Act → World → Prop} {E : Prop} {W W1 : World} (hN : o.dst = none) (hgd : o.guard = none) (t : TypeId) (p x : Operand) (ho : o.op = .store t p x) (pv xv : Value) (hp : a.eval p = pv) (hx : a.eval x = xv)
    (hrun : (Instr.storeAt t pv xv).run P W = .ok () W1) (h : Kc a W1) : if Region.wanted o (yielded ops a.tmps) = true then Oper.wp P o a W Kc Q else E := by
  have hw : Region.wanted o (yielded ops a.tmps) = true := by simp [Region.wanted, hgd]
  rw [if_pos hw]
  unfold Oper.wp execOp
  simp only [ho, hp, hx, Sem.run_bind, Sem.run_pure, Result.andThen_ok, hrun]
  show Kc (a.put o.dst undef) _
  rw [hN]
  exact h
theorem IsWV.leftrun {w : World} {base B : Nat} {s : WS} {vd vr vo : Value} {r t g n c : Nat} (h : IsWV w base B s (.slice (some ⟨g, 0, none⟩) n c) vd vr vo r t) (i : Nat) (p q : Int) (h2 : ∃ u, w.cell? ⟨g, i * 4 + 2 + 1, none⟩ = some u) :
    (Instr.storeAt 24 (.pointer (some ⟨g, i * 4 + 2, none⟩)) (.agg #[.int .i64 p, .int .i64 q])).run Try.prog w = .ok () ((w.setCell ⟨g, i * 4 + 2, none⟩ (.int .i64 p)).setCell ⟨g, i * 4 + 2 + 1, none⟩ (.int .i64 q)) := by
  obtain ⟨_, cells, hcb⟩ := row_block h.left (k := g) (by simp [Value.ownBlock])
  have hfit : i * 4 + 2 + 2 ≤ cells.size := by
    obtain ⟨u, hu⟩ := h2
    rw [blk_cell hcb] at hu
    have := (Array.getElem?_eq_some_iff.1 hu).1
    omega
  exact run_store_run (P := Try.prog) (o := i * 4 + 2) 24 (.agg #[.int .i64 p, .int .i64 q]) [.int .i64 p, .int .i64 q] hcb rfl (by kernel_rfl) hfit (by intro u hu; simp at hu; rcases hu with rfl | rfl <;> rfl)
end Go.Proofs.Ytameoapnhmoleaa
set_option linter.unusedVariables false
set_option linter.unusedSimpArgs false
namespace Go.Proofs.Ytameoapnhmoleaa
open Go.RowKit Go.Proofs.YtameoapnhmoleaaW.PrintWords Go.Proofs.YtameoapnhmoleaaW.PrintLast Go.Proofs.YtameoapnhmoleaaW.PrintMore
open PP

/-- Where the rounds stand: L is what was to be done, g rounds at most are to come. -/
structure MS (T : S24) (n : Nat) (L : List Mv) (at_ g : Nat) (s : WS) : Prop where
  pi : PI T n (fun _ => 0) 0 s
  le : at_ ≤ n
  past : ∀ i : Nat, i < at_ → rd s.done (i : Nat) = 1
  ends : ∀ o, Ends T (remOf s.left s.done) o → Ends T L (s.out ++ o)
  size : s.out.length + meas T (remOf s.left s.done) ≤ 2 * n
  left : meas T (remOf s.left s.done) ≤ g
theorem MS.outLen {T : S24} {n at_ g : Nat} {L : List Mv} {s : WS} (h : MS T n L at_ g s) : s.out.length ≤ 2 * n := Nat.le_trans (Nat.le_add_right _ _) h.size
theorem PI.readsBound {T : S24} {n : Nat} {x : S24 → Nat} {y : Int} {s : WS} (h : PI T n x y s) {p : S24} (hx : x p ≤ 1) (hy : 0 ≤ y) (ho : s.out.length ≤ 4000) (hn : n ≤ 1000) : -1000000 ≤ s.reads p ∧ s.reads p ≤ 1000000 := by
  by_cases hp : p = T
  · subst hp
    have := h.high
    have := h.low
    omega
  · rw [h.reads p hp]
    have := countR_le p (remOf s.left s.done)
    have := h.remLen
    omega
theorem PI.setsBound {T : S24} {n : Nat} {x : S24 → Nat} {y : Int} {s : WS} (h : PI T n x y s) (p : S24) : 0 ≤ s.sets p ∧ s.sets p ≤ n := by
  rcases h.sets0 p with e | ⟨i, e, hi, _⟩ <;> omega
theorem rd_set1 {d : List Int} {i j : Nat} (h : rd d (j : Nat) = 1) : rd (d.set i 1) (j : Nat) = 1 := by
  rw [rd_nat, List.getD_eq_getElem?_getD, List.getElem?_set]
  rw [rd_nat, List.getD_eq_getElem?_getD] at h
  by_cases hij : i = j
  · subst hij
    by_cases hl : i < d.length
    · simp [hl]
    · rw [List.getElem?_eq_none (by omega)] at h
      cases h
  · rw [if_neg hij]
    exact h
/-- A move is put. -/
theorem MS.put {T : S24} {n at_ g : Nat} {L : List Mv} {s : WS} (h : MS T n L at_ g s) (hp : 0 < s.ready.length) : ∃ i : Nat, popX s.ready = (i : Int) ∧ i < n ∧ 0 < g ∧ (popL s.ready).length ≤ n ∧ PI T n (one (s.left.getD i z36).f1) 1 { s with ready := popL s.ready, out := s.out ++ [s.left.getD i z36], done := s.done.set i 1 } ∧
    MS T n L at_ (g - 1) (putS { s with ready := popL s.ready } (s.left.getD i z36) i) := by
  obtain ⟨i, h1, h2, h3, h4, h5, a, b, e1, e2, e3, e4⟩ := put_PI h.pi hp
  have hm : meas T (remOf s.left (s.done.set i 1)) + 1 ≤ meas T (remOf s.left s.done) := by
    rw [e1, e2, meas_append, meas_append, meas]
    split <;> omega
  have hsz := h.size
  have hl := h.left
  refine ⟨i, h1, h2, by omega, by have := h.pi.readyLen; omega, h5, ⟨free_PI h5, h.le, fun j hj => rd_set1 (h.past j hj), ?_, ?_, ?_⟩⟩
  · intro o ho
    have ho : Ends T (remOf s.left (s.done.set i 1)) o := ho
    show Ends T L ((s.out ++ [s.left.getD i z36]) ++ o)
    rw [List.append_assoc]
    refine h.ends _ ?_
    rw [e1]
    rw [e2] at ho
    exact Ends.put a b _ o e3 e4 ho
  · show (s.out ++ [s.left.getD i z36]).length + meas T (remOf s.left (s.done.set i 1)) ≤ 2 * n
    rw [List.length_append, List.length_singleton]
    omega
  · show meas T (remOf s.left (s.done.set i 1)) ≤ g - 1
    omega
/-- A circle is broken. -/
theorem MS.brk {T : S24} {n at_ g : Nat} {L : List Mv} {s : WS} (h : MS T n L at_ g s) (hp : s.ready = []) (hi : at_ < n) (h0 : rd s.done (at_ : Nat) = 0) : 0 < g ∧
    PI T n (one (s.left.getD at_ z36).f1) 1 { s with out := s.out ++ [⟨T, (s.left.getD at_ z36).f1⟩], left := s.left.set at_ ⟨(s.left.getD at_ z36).f0, T⟩ } ∧
    MS T n L at_ (g - 1) (freeS { s with out := s.out ++ [⟨T, (s.left.getD at_ z36).f1⟩], left := s.left.set at_ ⟨(s.left.getD at_ z36).f0, T⟩ } (s.left.getD at_ z36).f1) := by
  obtain ⟨h1, h2, b, e1, e2, e3⟩ := brk_PI h.pi hp hi h0 h.past
  have hm : meas T (remOf (s.left.set at_ ⟨(s.left.getD at_ z36).f0, T⟩) s.done) + 1 = meas T (remOf s.left s.done) := by
    rw [e1, e2, meas, meas, if_pos rfl, if_neg h2]
    omega
  have hsz := h.size
  have hl := h.left
  refine ⟨by omega, h1, ⟨free_PI h1, h.le, h.past, ?_, ?_, ?_⟩⟩
  · intro o ho
    have ho : Ends T (remOf (s.left.set at_ ⟨(s.left.getD at_ z36).f0, T⟩) s.done) o := ho
    show Ends T L ((s.out ++ [(⟨T, (s.left.getD at_ z36).f1⟩ : Mv)]) ++ o)
    rw [List.append_assoc]
    refine h.ends _ ?_
    rw [e1]
    rw [e2] at ho
    exact Ends.brk b _ o e3 ho
  · show (s.out ++ [(⟨T, (s.left.getD at_ z36).f1⟩ : Mv)]).length + meas T (remOf (s.left.set at_ ⟨(s.left.getD at_ z36).f0, T⟩) s.done) ≤ 2 * n
    rw [List.length_append, List.length_singleton]
    omega
  · show meas T (remOf (s.left.set at_ ⟨(s.left.getD at_ z36).f0, T⟩) s.done) ≤ g - 1
    omega
theorem MS.next {T : S24} {n at_ g : Nat} {L : List Mv} {s : WS} (h : MS T n L at_ g s) (hi : at_ < n) (h1 : rd s.done (at_ : Nat) = 1) : MS T n L (at_ + 1) g s :=
  ⟨h.pi, hi, fun i hi2 => by
    rcases Nat.lt_or_ge i at_ with h2 | h2
    · exact h.past i h2
    · obtain rfl : i = at_ := by omega
      exact h1, h.ends, h.size, h.left⟩
/-- All is put. -/
theorem MS.end_ {T : S24} {n g : Nat} {L : List Mv} {s : WS} (h : MS T n L n g s) : Ends T L s.out := by
  have : remOf s.left s.done = [] := remOf_none (fun i hi => by rw [h.past i (by rw [← h.pi.lenL]; exact hi)]; decide)
  have := h.ends [] (by rw [this]; exact Ends.nil)
  rwa [List.append_nil] at this
theorem MS.start {T : S24} {n : Nat} {L : List Mv} {s : WS} (h : PI T n (fun _ => 0) 0 s) (hr : remOf s.left s.done = L) (ho : s.out = []) : MS T n L 0 (2 * n) s := by
  have hl : L.length ≤ n := by rw [← hr]; exact h.remLen
  have hm := meas_le T L
  refine ⟨h, Nat.zero_le _, fun i hi => absurd hi (Nat.not_lt_zero i), fun o hh => by rw [ho, List.nil_append]; rwa [hr] at hh, by rw [hr, ho]; simp; omega, by rw [hr]; omega⟩
end Go.Proofs.Ytameoapnhmoleaa
set_option linter.unusedVariables false
set_option linter.unusedSimpArgs false
namespace Go.Proofs.Ytameoapnhmoleaa
open Go.RowKit Go.Proofs.YtameoapnhmoleaaW.PrintWords Go.Proofs.YtameoapnhmoleaaW.PrintLast Go.Proofs.YtameoapnhmoleaaW.PrintMore
open PP

def OrderPost (w : World) (l : List Mv) (t : S24) (e : Ending) (w' : World) : Prop :=
  Below w.heap.size w w' ∧ ((refuseK l t ≠ 0 ∧ e = .returned (.tuple #[.slice none 0 0, .int .i64 (refuseK l t)])) ∨
    (refuseK l t = 0 ∧ ∃ v out, e = .returned (.tuple #[v, .int .i64 0]) ∧ k36.R 36 w' w.heap.size (fun _ => True) v out ∧ Ends t (filtL l) out ∧ out.length ≤ 2 * l.length))
attribute [local go_sem high] eqA24
theorem good_of {l : List Mv} {t : S24} (h : refuseK l t = 0) : placeB t = true ∧ l.any (badM t) = false ∧ distinctB l = true := by
  unfold refuseK at h
  split at h
  · cases h
  · rename_i h1
    split at h
    · rename_i h2
      refine ⟨?_, ?_, h2⟩
      · cases hp : placeB t
        · exact absurd (.inl hp) h1
        · rfl
      · cases ha : l.any (badM t)
        · rfl
        · exact absurd (.inr ha) h1
    · cases h
theorem bad_nt {l : List Mv} {t : S24} (h : l.any (badM t) = false) : ∀ m ∈ l, m.f0 ≠ t ∧ m.f1 ≠ t := by
  intro m hm
  have hb : badM t m = false := by
    cases hb : badM t m
    · rfl
    · have : l.any (badM t) = true := List.any_eq_true.2 ⟨m, hm, hb⟩
      rw [h] at this; cases this
  unfold badM at hb
  simp only [Bool.or_eq_false_iff] at hb
  refine ⟨fun e => ?_, fun e => ?_⟩
  · have := (eqL_iff _ _).2 e; rw [hb.1.2] at this; cases this
  · have := (eqL_iff _ _).2 e; rw [hb.2] at this; cases this
theorem nodup_of : ∀ {l : List Mv}, distinctB l = true → (l.map (·.f0)).Nodup
  | [], _ => List.nodup_nil
  | m :: l, h => by
    rw [distinctB, Bool.and_eq_true] at h
    rw [List.map_cons, List.nodup_cons]
    refine ⟨fun hm => ?_, nodup_of h.2⟩
    obtain ⟨x, hx, he⟩ := List.mem_map.1 hm
    have := List.all_eq_true.1 h.1 x hx
    rw [(eqL_iff _ _).2 he.symm] at this
    cases this
theorem nd_at {l : List Mv} {j : Nat} {m : Mv} (hn : (l.map (·.f0)).Nodup) (hj : j < l.length) (hm : l.getD j z36 = m) : m.f0 ∉ (filtL (l.take j)).map (·.f0) := by
  obtain ⟨a, b, e, hl⟩ := mid z36 l j hj
  rw [hm] at e
  have ha : l.take j = a := by rw [e, ← hl]; simp
  rw [ha]
  rw [e, List.map_append, List.nodup_append] at hn
  intro h
  obtain ⟨x, hx, he⟩ := List.mem_map.1 h
  have hxa : x ∈ a := (List.filter_sublist (p := fun m : Mv => !eqL m.f1 m.f0)).mem hx
  exact hn.2.2 x.f0 (List.mem_map.2 ⟨x, hxa, rfl⟩) m.f0 (by simp) he
theorem start_W (w : World) : IsWV (((w.alloc (.map #[] 0)).alloc (.map #[] 0)).alloc (.cells #[.slice none 0 0, .slice none 0 0, .map (some w.heap.size), .map (some (w.heap.size + 1)), .slice none 0 0, .slice none 0 0] 56)) w.heap.size (w.heap.size + 1 + 1) ⟨[], [], fun _ => 0, fun _ => 0, [], []⟩ (.slice none 0 0) (.slice none 0 0) (.slice none 0 0) (.slice none 0 0) w.heap.size (w.heap.size + 1) := by
  have e1 : (w.alloc (.map #[] 0)).heap.size = w.heap.size + 1 := World.size_alloc ..
  have e2 : ((w.alloc (.map #[] 0)).alloc (.map #[] 0)).heap.size = w.heap.size + 1 + 1 := by rw [World.size_alloc, e1]
  refine ⟨?_, by omega, Nat.le_refl _, by omega, by omega, Kd.R_nil _ _ _ _ _, Kd.R_nil _ _ _ _ _, Kd.R_nil _ _ _ _ _, Kd.R_nil _ _ _ _ _, ?_, ?_, ne_nil _, ne_nil _⟩
  · have := heap_alloc_new ((w.alloc (.map #[] 0)).alloc (.map #[] 0)) (.cells #[.slice none 0 0, .slice none 0 0, .map (some w.heap.size), .map (some (w.heap.size + 1)), .slice none 0 0, .slice none 0 0] 56)
    rwa [e2] at this
  · refine (map_made w).kept ?_
    rw [Below.heap_alloc _ _ _ (by omega), Below.heap_alloc _ _ _ (by omega)]
  · have := map_made (w.alloc (.map #[] 0))
    rw [e1] at this
    refine this.kept ?_
    rw [Below.heap_alloc _ _ _ (by omega)]
set_option maxRecDepth 200000 in
set_option maxHeartbeats 16000000 in
theorem order_any (A : Option Addr) (n c : Nat) (l : List Mv) (t0 t1 : Int) (w : World) (hC : Kd.C k36 w A n l) (hnc : n ≤ c) (hn : n ≤ 1000) :
    Calls Try.prog 10 #[.slice A n c, .agg #[.int .i64 t0, .int .i64 t1]] w (OrderPost w l ⟨t0, t1⟩) := by
  have HLL := Lib.hid hC.2.1
  have HLN := Lib.hid hC.1
  have HC := Lib.hid hC
  clear hC
  have hrf := fun w' hC => refuse_any A n c l ⟨t0, t1⟩ w' hC hnc
  have HRF := Lib.hid hrf
  clear hrf
  have HT0 := Lib.hid (heap_alloc_new w (.cells #[.int .i64 t0, .int .i64 t1] 24))
  have hbx := HT0.out
  obtain ⟨q0, q1⟩ := cells2 hbx
  clear hbx
  go_enter Try.func10, Try.ntmps10
  go_wp2_with fail
  go_step3
  go_wp2_with fail
  refine (HRF.out _ (Kd.C_below HC.out ((Below.refl _ _).alloc (Nat.le_refl _) _))).mono ?_
  rintro e w1 ⟨rfl, hb1⟩
  have HT1 := Lib.hid (blk_below HT0.out hb1)
  have HB1 := Lib.hid (below_then ((Below.refl _ _).alloc (Nat.le_refl _) (.cells #[.int .i64 t0, .int .i64 t1] 24)) (by simp) hb1)
  clear hb1 q0 q1
  generalize hk : refuseK l ⟨t0, t1⟩ = k
  have HK := Lib.hid hk
  clear hk
  by_cases hk0 : k = 0
  · subst hk0
    obtain ⟨hpB, hall, hdis⟩ := good_of HK.out
    have HALL := Lib.hid hall
    have HNT := Lib.hid (bad_nt hall)
    have HND := Lib.hid (nodup_of hdis)
    clear hall hdis
    have hmm := @run_makeMap Try.prog
    have HW0 := Lib.hid (start_W w1)
    have HF0 := Lib.hid (Fr.alloc (Fr.alloc (Fr.alloc (Fr.refl w1 (fun k => w1.heap.size ≤ k)) (.map #[] 0)) (.map #[] 0)) (.cells #[.slice none 0 0, .slice none 0 0, .map (some w1.heap.size), .map (some (w1.heap.size + 1)), .slice none 0 0, .slice none 0 0] 56))
    have HTB : Hid (w.heap.size < w1.heap.size) := Lib.hid (blk_lt HT1.out)
    go_wp2_with fail
    clear hmm
    obtain ⟨base, hbase⟩ : ∃ b, b = w1.heap.size := ⟨_, rfl⟩
    obtain ⟨t', ht'⟩ : ∃ b, b = w1.heap.size + 1 := ⟨_, rfl⟩
    obtain ⟨B, hB⟩ : ∃ b, b = w1.heap.size + 1 + 1 := ⟨_, rfl⟩
    rw [← hB, ← ht', ← hbase] at HW0 ⊢
    rw [← ht', ← hbase] at HF0
    rw [← hbase] at HTB
    generalize hW0 : ((w1.alloc (Obj.map #[] 0)).alloc (Obj.map #[] 0)).alloc (Obj.cells #[.slice none 0 0, .slice none 0 0, .map (some base), .map (some t'), .slice none 0 0, .slice none 0 0] 56) = W0 at HW0 HF0 ⊢
    have HBB : Hid (w1.heap.size = base) := Lib.hid hbase.symm
    clear hW0 hB ht' hbase
    go_loopw [26] (fun i wr => ∃ j : Nat, j ≤ n ∧ i = .int .i64 j ∧ Hid (∃ s vl, IsWV wr base B s vl (.slice none 0 0) (.slice none 0 0) (.slice none 0 0) base t' ∧ BI (l.take j) s) ∧ Hid (Fr w1 wr (fun k => base ≤ k))) (fun i _ => n - (intOf i).toNat)
    case atStart => exact ⟨0, by omega, rfl, Lib.hid ⟨_, _, HW0.out, BI.nil⟩, HF0⟩
    case round =>
      obtain ⟨j, hj, rfl, HS, HF⟩ := hrel
      by_cases hlt : j < n
      · have HBR := Lib.hid (below_then HB1.out HB1.out.size (HF.out.below (fun k hk => by rw [HBB.out]; exact hk)))
        obtain ⟨ad, hA, p0, p1, p2, p3⟩ := mv_cells (Kd.C_below HC.out HBR.out) j hlt
        obtain rfl := hA
        generalize hm : l.getD j z36 = m at *
        have HM := Lib.hid hm
        clear hm
        obtain ⟨⟨a0, a1⟩, ⟨b0, b1⟩⟩ := m
        simp only at p0 p1 p2 p3
        have hrm := heap_alloc_new wr (.cells #[.int .i64 a0, .int .i64 a1, .int .i64 b0, .int .i64 b1] 36)
        have HRM := Lib.hid hrm
        obtain ⟨q0, q1, q2, q3⟩ := cells4 hrm
        clear hrm
        cases heq : (b0 == a0 && (b1 == a1))
        · have HEQ := Lib.hid heq
          obtain ⟨s, vl, k1, k2⟩ := HS.out
          have HKA := Lib.hid (k1.alloc (.cells #[.int .i64 a0, .int .i64 a1, .int .i64 b0, .int .i64 b1] 36))
          have HK2 := Lib.hid k2
          have hsl : s.left.length ≤ 1000 := by
            have h1 : s.left.length ≤ (l.take j).length := by rw [k2.left]; exact List.filter_sublist.length_le
            rw [List.length_take] at h1
            omega
          have HRD := Lib.hid (show 0 ≤ s.reads ⟨b0, b1⟩ ∧ s.reads ⟨b0, b1⟩ ≤ 1000 from by
            rw [k2.reads]
            have h1 := countR_le ⟨b0, b1⟩ (filtL (l.take j))
            have h2 : s.left.length = (filtL (l.take j)).length := by rw [k2.left]
            omega)
          obtain ⟨Al, cl, rfl, hncl, _⟩ := Kd.R_reads k1.left
          have hMl : some wr.heap.size ≠ (Value.slice Al s.left.length cl).ownBlock := fun e => by
            have := IsWV.rowlt k1.left _ e.symm
            omega
          have HML := Lib.hid hMl
          have HMB : Hid (wr.heap.size ≠ B) := Lib.hid (by have := k1.lt; omega)
          have HMr : Hid (wr.heap.size ≠ base) := Lib.hid (by have := k1.reads.lt; omega)
          have HMt : Hid (wr.heap.size ≠ t') := Lib.hid (by have := k1.sets.lt; omega)
          obtain ⟨c0, c1, c2, c3, c4, c5⟩ := blk6 HKA.out.blk
          have hltB := HKA.out.lt
          have c0' := (blk6 (HKA.out.alloc (.cells #[.int .i64 a0, .int .i64 a1, .int .i64 b0, .int .i64 b1] 36)).blk).1
          have HBS : Hid (base ≤ wr.heap.size) := Lib.hid (by have := k1.reads.lt; omega)
          clear k1 k2 hMl
          go_wp2_with fail
          go_region_law (first | (refine app_step k36 (wr.alloc (.cells #[.int .i64 a0, .int .i64 a1, .int .i64 b0, .int .i64 b1] 36)).drew base (by rfl) (.tmp 39) (.tmp 41) 22 36 zero36 32 (by rfl) Try.underlying22 info36 size36 (by decide) (by decide) (.slice Al s.left.length cl) s.left ⟨⟨a0, a1⟩, ⟨b0, b1⟩⟩ [.int .i64 a0, .int .i64 a1, .int .i64 b0, .int .i64 b1] (by rfl) (fun _ => True) (by rfl) (by rw [show (wr.alloc (.cells #[.int .i64 a0, .int .i64 a1, .int .i64 b0, .int .i64 b1] 36)).drew.heap.size = wr.heap.size + 1 from World.size_alloc ..]; rfl) (k36_mem a0 a1 b0 b1) (fun _ _ => trivial) (by exact Kd.R_drew HKA.out.left) (by show base ≤ (wr.alloc _).heap.size; rw [World.size_alloc]; have := HBS.out; omega) (by omega) ?_; intro v1 w3 hR1 hg1 hat1; obtain ⟨A1, k1, e1⟩ := Kd.R_slice hR1; rw [List.length_append, List.length_singleton] at e1; subst e1; have HO := Lib.hid (HKA.out.drew.lefted (by show base ≤ (wr.alloc _).heap.size; rw [World.size_alloc]; have := HBS.out; omega) hR1 hg1 hat1); have hb1 := blk_grown (show (wr.alloc (.cells #[.int .i64 a0, .int .i64 a1, .int .i64 b0, .int .i64 b1] 36)).drew.heap[B]? = _ from HKA.out.blk) hg1 (Ne.symm (row_ne HKA.out.left HKA.out.blk (by decide))); have c1 := (blk6 hb1).1; have z1 := blk_frozen hb1 0; clear hR1 hg1 hat1 hb1))
          all_goals
            obtain ⟨hk3, hf3⟩ := HO.out
            have hrm3 := hf3.blk (show (wr.alloc (.cells #[.int .i64 a0, .int .i64 a1, .int .i64 b0, .int .i64 b1] 36)).drew.heap[wr.heap.size]? = _ from HRM.out) (by rintro (e | e); exact HMB.out e; exact HML.out e)
            have HF3 := Lib.hid (((HF.out.alloc (.cells #[.int .i64 a0, .int .i64 a1, .int .i64 b0, .int .i64 b1] 36)).drewN 1).then_ hf3 (fun k hk => .inl (by
              rcases hk with rfl | hk
              · exact hk3.bB
              · exact (row_block HKA.out.left hk.symm).1)))
            clear c0 c1 c2 c3 c4 c5 z1 p0 p1 p2 p3 q0 q1 q2 q3 c0' hltB hf3 HO HKA
            generalize hW3 : w3.setCell ⟨B, 0, none⟩ (.slice A1 (s.left.length + 1) k1) = W3 at *
            clear hW3
            obtain ⟨c0, c1, c2, c3, c4, c5⟩ := blk6 hk3.blk
            obtain ⟨q0, q1, q2, q3⟩ := cells4 hrm3
            have hL1 := lookup_run hk3.drew.reads ⟨b0, b1⟩
            obtain ⟨st, W4, hE, hS1, hg1⟩ := entry_run hk3.drew.reads ⟨b0, b1⟩
            have hL4 := lookup_run hS1.at_ ⟨b0, b1⟩
            obtain ⟨W5, hST, hM5, hg2⟩ := store_run hS1 (s.reads ⟨b0, b1⟩ + 1)
            have hk5 := (hk3.drew.readsd hg1 hS1.at_).readsd hg2 hM5
            have hrm5 := blk_grown (blk_grown (show W3.drew.heap[wr.heap.size]? = _ from hrm3) hg1 (by simpa using HMr.out)) hg2 (by simpa using HMr.out)
            obtain ⟨W6, hU, hM6, hg3⟩ := update_run hk5.drew.sets ⟨a0, a1⟩ ((s.left.length + 1 : Nat) : Int)
            have HK6 := Lib.hid (hk5.drew.setsd hg3 hM6)
            have HF6 := Lib.hid (((((HF3.out.drewN 1).then_ (Fr.of_grown hg1 (S := fun k => base ≤ k) (fun k hk => by cases hk; exact hk3.br)) (fun k hk => .inl hk)).then_ (Fr.of_grown hg2 (S := fun k => base ≤ k) (fun k hk => by cases hk; exact hk3.br)) (fun k hk => .inl hk)).drewN 1).then_ (Fr.of_grown hg3 (S := fun k => base ≤ k) (fun k hk => by cases hk; exact hk3.bt)) (fun k hk => .inl hk))
            obtain ⟨e0, e1, e2, e3, e4, e5⟩ := blk6 hk5.blk
            obtain ⟨f0, f1, f2, f3⟩ := cells4 hrm5
            have hx0 := HRD.out.1
            have hx1 := HRD.out.2
            unfold keyV at hL1 hL4 hE hU
            simp only at hL1 hL4 hE hU
            rw [show ((s.left.length + 1 : Nat) : Int) = (s.left.length : Int) + 1 from by omega] at hU
            generalize hx : s.reads ⟨b0, b1⟩ = x at *
            have HX := Lib.hid hx
            clear hx hS1 hg1 hM5 hg2 hk5 hrm5 hM6 hg3 hk3 hrm3
            go_wp2_with fail
            go_region
            go_wp2_with fail
            go_region
            go_wp2_with fail
            go_roundw
            case rel =>
              refine ⟨j + 1, by omega, by go_num, Lib.hid ⟨addS s ⟨⟨a0, a1⟩, ⟨b0, b1⟩⟩, .slice A1 (s.left.length + 1) k1, ?_, ?_⟩, HF6⟩
              · have := HK6.out
                unfold addS
                simp only
                rw [HX.out]
                exact this
              · rw [take_snoc (by rw [HLN.out]; exact hlt) HM.out]
                exact HK2.out.step HEQ.out (nd_at HND.out (by rw [HLN.out]; exact hlt) HM.out)
            case measure => simp [intOf]; omega
        · have HEQ := Lib.hid heq
          go_wp2_with fail
          go_roundw
          case rel =>
            refine ⟨j + 1, by omega, by go_num, ?_, Lib.hid (HF.out.alloc _)⟩
            obtain ⟨s, vl, k1, k2⟩ := HS.out
            refine Lib.hid ⟨s, vl, k1.alloc _, ?_⟩
            rw [take_snoc (by rw [HLN.out]; exact hlt) HM.out]
            exact k2.skip HEQ.out
          case measure => simp [intOf]; omega
      · obtain rfl : j = n := by omega
        have HBR := Lib.hid (below_then HB1.out HB1.out.size (HF.out.below (fun k hk => by rw [HBB.out]; exact hk)))
        obtain ⟨s, vl, k1, k2⟩ := HS.out
        rw [List.take_of_length_le (by rw [HLN.out]; exact Nat.le_refl _)] at k2
        have HK2 := Lib.hid k2
        have HK1 := Lib.hid k1
        have hsl : s.left.length ≤ j := by
          have h1 : s.left.length ≤ l.length := by rw [k2.left]; exact List.filter_sublist.length_le
          have := HLN.out
          omega
        obtain ⟨Al, cl, rfl, hncl, _⟩ := Kd.R_reads k1.left
        obtain ⟨c0, c1, c2, c3, c4, c5⟩ := blk6 k1.blk
        have HBS : Hid (base ≤ wr.heap.size) := Lib.hid (by have := k1.reads.lt; have := k1.br; omega)
        have hsl2 : s.left.length ≤ 1000 := by omega
        clear k1 k2
        go_wp2_with (refine Kd.R_make kI (w0 := wr) base 3 (by rfl) (by rfl) 42 (.tmp 72) (.tmp 72) (by rfl) (s.left.length : Int) (by rfl) (by rfl) Try.underlying42 (.int .i64 0) 8 info3 (by rfl) (by decide) (by decide) (0 : Int) (ok := fun _ => True) (okp := fun _ => False) rfl (fun _ h => h.elim) trivial (by omega) (by simp; omega) (Below.refl _ _) (by exact HBS.out) ?_; rintro v1 w3 hR1 hB1 hg1 hat1; rw [Int.toNat_natCast] at hR1; obtain ⟨A1, k1, e1⟩ := Kd.R_slice hR1; rw [List.length_replicate] at e1; subst e1; have HO := Lib.hid (HK1.out.made hR1 hg1 hat1); have hb1 := blk_grown HK1.out.blk hg1 (by simp); obtain ⟨d0, d1, d2, d3, d4, d5⟩ := blk6 hb1; have z1 := blk_frozen hb1 1; clear hR1 hB1 hg1 hat1 hb1)
        have HKL := Lib.hid HO.out.1
        have HFL := Lib.hid (HF.out.then_ HO.out.2 (fun k hk => .inl (by rw [hk]; exact HKL.out.bB)))
        clear HO HF HF0 HW0 HS c0 c1 c2 c3 c4 c5 d0 d1 d2 d3 d4 d5 z1 HK1 HRF
        generalize hW3 : w3.setCell ⟨B, 1, none⟩ (.slice A1 s.left.length k1) = W3 at *
        clear hW3
        go_loopw [81] (fun i wr => ∃ k : Nat, k ≤ s.left.length ∧ i = .int .i64 k ∧ Hid (∃ s' vr, IsWV wr base B s' (.slice Al s.left.length cl) (.slice A1 s.left.length k1) vr (.slice none 0 0) base t' ∧ s'.left = s.left ∧ s'.reads = s.reads ∧ s'.sets = s.sets ∧ s'.done = List.replicate s'.left.length 0 ∧ s'.out = [] ∧ RI s'.left.length k s') ∧ Hid (Fr w1 wr (fun k => base ≤ k))) (fun i _ => s.left.length - (intOf i).toNat)
        case atStart => exact ⟨0, by omega, rfl, Lib.hid ⟨_, _, HKL.out, rfl, rfl, rfl, rfl, HK2.out.out, RI.nil HK2.out.ready⟩, HFL⟩
        case round =>
          obtain ⟨k, hk, rfl, HS, HF⟩ := hrel
          by_cases hlt2 : k < s.left.length
          · obtain ⟨s', vr, h1, h2, h3, h4, h5, h6, h7⟩ := HS.out
            have hlf := h1.left
            rw [h2] at hlf
            obtain ⟨Al', cl', e', _, hC'⟩ := Kd.R_reads hlf
            cases e'
            clear hlf
            obtain ⟨ad', hA', p0, p1, p2, p3⟩ := mv_cells hC' k hlt2
            obtain rfl := hA'
            have hR7 := Lib.hid h7
            have hready : s'.ready.length ≤ 1000000 := by
              have := nodup_len s'.ready ((List.range k).map (fun i : Nat => (i : Int))) h7.rnd (fun q hq => by
                obtain ⟨i, rfl, hi, _⟩ := (h7.rdy q).1 hq
                exact List.mem_map.2 ⟨i, List.mem_range.2 hi, rfl⟩)
              simp at this
              omega
            generalize hm : s.left.getD k z36 = m at *
            have HM := Lib.hid hm
            clear hm
            obtain ⟨⟨a0, a1⟩, ⟨b0, b1⟩⟩ := m
            simp only at p0 p1 p2 p3
            have hrm := heap_alloc_new wr (.cells #[.int .i64 a0, .int .i64 a1, .int .i64 b0, .int .i64 b1] 36)
            obtain ⟨q0, q1, q2, q3⟩ := cells4 hrm
            have HKA := Lib.hid (h1.alloc (.cells #[.int .i64 a0, .int .i64 a1, .int .i64 b0, .int .i64 b1] 36))
            obtain ⟨c0, c1, c2, c3, c4, c5⟩ := blk6 HKA.out.blk
            have hL := lookup_run HKA.out.drew.reads ⟨a0, a1⟩
            unfold keyV at hL
            simp only at hL
            have HE := Lib.hid (show s'.left = s.left ∧ s'.reads = s.reads ∧ s'.sets = s.sets ∧ s'.done = List.replicate s'.left.length 0 ∧ s'.out = [] from ⟨h2, h3, h4, h5, h6⟩)
            have HBS2 : Hid (base ≤ wr.heap.size) := Lib.hid (by have := h1.reads.lt; have := h1.br; omega)
            generalize hx : s'.reads ⟨a0, a1⟩ = x at *
            have HX := Lib.hid hx
            clear hx h1 h2 h3 h4 h5 h6 h7 hrm hC'
            by_cases hx0 : x = 0
            · subst hx0
              go_wp2_with fail
              go_region
              go_wp2_with fail
              refine (hpush_any base B 4 56 _ vr s'.ready (k : Int) _ (by exact HKA.out.drew.heap) (by show base ≤ (wr.alloc _).heap.size; rw [World.size_alloc]; have := HBS2.out; omega) hready).mono ?_
              rintro e w4 ⟨rfl, vr4, hT⟩
              have HT := Lib.hid hT
              clear hT
              go_wp2_with fail
              go_roundw
              case rel =>
                obtain ⟨h2, h3, h4, h5, h6⟩ := HE.out
                obtain ⟨r1, r2⟩ := HKA.out.drew.heaped HT.out (by show base ≤ (wr.alloc _).heap.size; rw [World.size_alloc]; have := HBS2.out; omega)
                exact ⟨k + 1, by omega, by go_num, Lib.hid ⟨_, vr4, r1, h2, h3, h4, h5, h6, hR7.out.push (by rw [h2, HM.out]; simp only; rw [HX.out])⟩, Lib.hid (((HF.out.alloc _).drewN 1).then_ r2 (fun k hk => .inl hk))⟩
              case measure => simp [intOf]; omega
            · have hxb : (x == 0) = false := by simpa using hx0
              go_wp2_with fail
              go_region
              go_wp2_with fail
              go_roundw
              case rel =>
                obtain ⟨h2, h3, h4, h5, h6⟩ := HE.out
                exact ⟨k + 1, by omega, by go_num, Lib.hid ⟨s', _, HKA.out.drew, h2, h3, h4, h5, h6, hR7.out.skip (by rw [h2, HM.out]; simp only; rw [HX.out]; exact hx0)⟩, Lib.hid ((HF.out.alloc _).drewN 1)⟩
              case measure => simp [intOf]; omega
          · obtain rfl : k = s.left.length := by omega
            have HM0 : Hid (∃ s' vr vo, IsWV wr base B s' (.slice Al s.left.length cl) (.slice A1 s.left.length k1) vr vo base t' ∧ MS ⟨t0, t1⟩ s.left.length (filtL l) 0 (2 * s.left.length) s') := by
              obtain ⟨s', vr, h1, h2, h3, h4, h5, h6, h7⟩ := HS.out
              have h7' : RI s'.left.length s'.left.length s' := by
                have := h7
                rw [h2] at this ⊢
                exact this
              have hpi := PI.start HK2.out HND.out (fun m hm => (HNT.out m hm).1) (fun m hm => (HNT.out m hm).2) h7' h2 h3 h4 h5 h6
              have hms := MS.start (L := filtL l) hpi (by rw [h5, remOf_zero, h2, HK2.out.left]) h6
              rw [h2] at hms
              exact Lib.hid ⟨s', _, _, h1, hms⟩
            clear HK2 HKL HFL HS HBS
            generalize s.left.length = N at *
            go_wp2_with fail
            go_step3
            go_wp2_with fail
            go_loopg [12] (2 * N) (fun g a wr => ∃ at_ : Nat, at_ ≤ N ∧ a = .int .i64 at_ ∧ Hid (∃ s vr vo, IsWV wr base B s (.slice Al N cl) (.slice A1 N k1) vr vo base t' ∧ MS ⟨t0, t1⟩ N (filtL l) at_ g s) ∧ Hid (Fr w1 wr (fun k => base ≤ k)))
            case atStart => exact ⟨0, by omega, rfl, HM0, HF⟩
            case round =>
              obtain ⟨at_, hat, rfl, HS, HF⟩ := hrel
              go_wp2_with fail
              obtain ⟨G, hG⟩ : ∃ G, gk = G := ⟨_, rfl⟩
              rw [hG] at HS
              have HG := Lib.hid hG
              clear hG
              go_loopg [] G (fun g wr => g ≤ G ∧ Hid (∃ s vr vo, IsWV wr base B s (.slice Al N cl) (.slice A1 N k1) vr vo base t' ∧ MS ⟨t0, t1⟩ N (filtL l) at_ g s) ∧ Hid (Fr w1 wr (fun k => base ≤ k)))
              case atStart => exact ⟨Nat.le_refl _, HS, HF⟩
              case round =>
                obtain ⟨hgG, HS, HF⟩ := hrel
                obtain ⟨s, vr, vo, h1, h2⟩ := HS.out
                obtain ⟨Ar, cr, rfl, _, _⟩ := Kd.R_reads h1.ready
                have HK1 := Lib.hid h1
                have HK2 := Lib.hid h2
                obtain ⟨c0, c1, c2, c3, c4, c5⟩ := blk6 h1.blk
                have hrl := h2.pi.readyLen
                by_cases hr0 : 0 < s.ready.length
                · obtain ⟨i, e1, e2, e3, e4, e5, e6⟩ := h2.put hr0
                  have HE := Lib.hid (show popX s.ready = (i : Int) ∧ i < N ∧ (popL s.ready).length ≤ N ∧ s.out.length ≤ 2 * N from ⟨e1, e2, e4, h2.outLen⟩)
                  have HE5 := Lib.hid e5
                  have HE6 := Lib.hid e6
                  have HPOP := Lib.hid (fun w h => hpop_any base B 4 56 #[.slice Al N cl, .slice A1 N k1, .map (some base), .map (some t'), .slice Ar s.ready.length cr, vo] (.slice Ar s.ready.length cr) s.ready w h hr0 (by omega))
                  have hBS : base ≤ wr.heap.size := by have := h1.reads.lt; omega
                  have HBS := Lib.hid hBS
                  have hoL := h2.outLen
                  have hlL := h2.pi.lenL
                  have hlD := h2.pi.lenD
                  have hob : (s.out ++ [s.left.getD i z36]).length ≤ 4000 := by simp; omega
                  have HPUT := Lib.hid (fun w' vr' h hbw => put_any base B { s with ready := popL s.ready } (.slice Al N cl) (.slice A1 N k1) vr' vo base t' i w' h hbw (by show (popL s.ready).length ≤ _; omega) (by show s.done.length ≤ _; omega) (by show s.out.length ≤ _; omega) (by show i < s.left.length; omega) (by show i < s.done.length; omega) (e5.readsBound (by simp [one]) (by omega) hob hsl2) (by have := e5.setsBound (s.left.getD i z36).f1; show 0 ≤ s.sets _ ∧ s.sets _ ≤ (s.done.length : Int); rw [hlD]; exact this))
                  clear hob hoL hlL hlD
                  clear e1 e2 e4 e5 e6 h1 h2 hBS
                  have hta2 := hta (i : Int)
                  go_wp2_with fail
                  refine (HPOP.out _ (by exact HK1.out.heap)).mono ?_
                  rintro e w2 ⟨rfl, vr2, hT⟩
                  obtain ⟨k1', k2'⟩ := HK1.out.heaped hT HBS.out
                  have HKP := Lib.hid k1'
                  have HFP := Lib.hid k2'
                  clear hT k1' k2'
                  rw [HE.out.1]
                  go_wp2_with fail
                  refine (HPUT.out _ _ (by exact HKP.out) (by have h1 := HFP.out.size; have h2 := HBS.out; omega)).mono ?_
                  rintro e w3 ⟨rfl, ⟨vr3, vo3, hk3⟩, hf3⟩
                  have HK3 := Lib.hid hk3
                  have HF3 := Lib.hid hf3
                  clear hk3 hf3
                  go_wp2_with fail
                  go_roundg (gk - 1)
                  case measure => omega
                  case rel => exact ⟨by omega, Lib.hid ⟨_, vr3, vo3, HK3.out, HE6.out⟩, Lib.hid ((HF.out.then_ HFP.out (fun k hk => .inl hk)).then_ HF3.out (fun k hk => .inl hk))⟩
                · have hr0' : s.ready.length = 0 := by omega
                  have HR0 := Lib.hid (List.length_eq_zero_iff.1 hr0')
                  clear h1 h2 hr0
                  rw [hr0'] at c4
                  go_wp2_with fail
                  clear c0 c1 c2 c3 c4 c5
                  go_loopw [12] (fun a wr => ∃ q : Nat, q ≤ N ∧ a = .int .i64 q ∧ Hid (IsWV wr base B s (.slice Al N cl) (.slice A1 N k1) (.slice Ar s.ready.length cr) vo base t') ∧ Hid (MS ⟨t0, t1⟩ N (filtL l) q gk s) ∧ Hid (Fr w1 wr (fun k => base ≤ k))) (fun a _ => N - (intOf a).toNat)
                  case atStart => exact ⟨at_, hat, rfl, HK1, HK2, HF⟩
                  case round =>
                    obtain ⟨q, hq, rfl, HKq, HM, HF⟩ := hrel
                    obtain ⟨c0, c1, c2, c3, c4, c5⟩ := blk6 HKq.out.blk
                    have hlL := HM.out.pi.lenL
                    have hlD := HM.out.pi.lenD
                    by_cases hqN : q < N
                    · obtain ⟨gd, cd, ed, _⟩ := Kd.R_form HKq.out.done (by omega)
                      rw [hlD] at ed
                      injection ed with ed1 _ ed3
                      subst ed1
                      subst ed3
                      have hdc := (kI_cell HKq.out.done q hqN).1
                      have hbin := HM.out.pi.bin (rd s.done (q : Nat)) (by rw [rd_nat]; exact getD_mem (by omega))
                      have hqi : (q : Int) < (N : Int) := by omega
                      rcases hbin with hb | hb
                      · rw [hb] at hdc
                        obtain ⟨gl, cl', el, _⟩ := Kd.R_form HKq.out.left (by omega)
                        rw [hlL] at el
                        injection el with el1 _ el3
                        subst el1
                        subst el3
                        obtain ⟨Al', cl2, e', _, hC'⟩ := Kd.R_reads HKq.out.left
                        rw [hlL] at e' hC'
                        cases e'
                        obtain ⟨ad', hA', p0, p1, p2, p3⟩ := mv_cells hC' q hqN
                        cases hA'
                        rw [add_plain] at p0 p1 p2 p3
                        simp only [Nat.zero_add] at p0 p1 p2 p3
                        obtain ⟨hg0, hpi2, hms2⟩ := HM.out.brk HR0.out hqN hb
                        have HMS2 := Lib.hid hms2
                        have hrb := hpi2.readsBound (p := (s.left.getD q z36).f1) (by simp [one]) (by omega) (by have := HM.out.outLen; simp; omega) hsl2
                        have hsb := hpi2.setsBound (s.left.getD q z36).f1
                        have HRB := Lib.hid hrb
                        have HSB := Lib.hid hsb
                        have HLR := Lib.hid (show s.ready.length ≤ 1000000 from by have := HM.out.pi.readyLen; omega)
                        have hol := HM.out.outLen
                        generalize hm : s.left.getD q z36 = m at *
                        have HMM := Lib.hid hm
                        clear hm hms2 hpi2 hrb hsb hC'
                        obtain ⟨⟨a0, a1⟩, ⟨b0, b1⟩⟩ := m
                        simp only at p0 p1 p2 p3
                        obtain ⟨Ao, co, rfl, _, _⟩ := Kd.R_reads HKq.out.out
                        have HKA := Lib.hid (HKq.out.alloc (.cells #[.int .i64 b0, .int .i64 b1] 24))
                        have HTW := Lib.hid (blk_alloc (HF.out.blk HT1.out (by have := HTB.out; omega)) (.cells #[.int .i64 b0, .int .i64 b1] 24))
                        have HFW := Lib.hid (heap_alloc_new wr (.cells #[.int .i64 b0, .int .i64 b1] 24))
                        obtain ⟨u0, u1⟩ := cells2 HTW.out
                        obtain ⟨v0, v1⟩ := cells2 HFW.out
                        obtain ⟨d0, d1, d2, d3, d4, d5⟩ := blk6 HKA.out.blk
                        have d5' := (blk6 (HKA.out.alloc (.cells #[.int .i64 t0, .int .i64 t1, .int .i64 b0, .int .i64 b1] 36)).blk).2.2.2.2.2
                        have hBS : base ≤ wr.heap.size := by have := HKq.out.reads.lt; omega
                        have HBS := Lib.hid hBS
                        have HLT := Lib.hid HKq.out.lt
                        have HOL := Lib.hid (IsWV.rowlt HKq.out.out)
                        have HLL2 := Lib.hid (IsWV.rowlt HKq.out.left gl (by simp [Value.ownBlock]))
                        clear hBS hb hlL
                        go_wp2_with fail
                        go_region_law (first | (refine app_step k36 (wr.alloc (.cells #[.int .i64 b0, .int .i64 b1] 24)).drew base (by rfl) (.tmp 154) (.tmp 158) 22 36 zero36 32 (by rfl) Try.underlying22 info36 size36 (by decide) (by decide) (.slice Ao s.out.length co) s.out ⟨⟨t0, t1⟩, ⟨b0, b1⟩⟩ [.int .i64 t0, .int .i64 t1, .int .i64 b0, .int .i64 b1] (by rfl) (fun _ => True) (by rfl) (by rw [show (wr.alloc (.cells #[.int .i64 b0, .int .i64 b1] 24)).drew.heap.size = wr.heap.size + 1 from World.size_alloc ..]; rfl) (k36_mem t0 t1 b0 b1) (fun _ _ => trivial) (by exact Kd.R_drew HKA.out.out) (by show base ≤ (wr.alloc _).heap.size; rw [World.size_alloc]; have := HBS.out; omega) (by omega) ?_; intro v1 w3 hR1 hg1 hat1; obtain ⟨A1, k1, e1⟩ := Kd.R_slice hR1; rw [List.length_append, List.length_singleton] at e1; subst e1; have HO := Lib.hid (HKA.out.drew.outed (by show base ≤ (wr.alloc _).heap.size; rw [World.size_alloc]; have := HBS.out; omega) hR1 hg1 hat1); have HOF := Lib.hid (IsWV.outed_fr (B := B) (vo1 := .slice A1 (s.out.length + 1) k1) hg1); have hb1 := blk_grown (show (wr.alloc (.cells #[.int .i64 b0, .int .i64 b1] 24)).drew.heap[B]? = _ from HKA.out.blk) hg1 (Ne.symm (row_ne HKA.out.out HKA.out.blk (by decide))); have c1 := (blk6 hb1).2.2.2.2.2; have z1 := blk_frozen hb1 5; clear hR1 hg1 hat1 hb1))
                        all_goals
                          have hk3 := HO.out.1
                          have HF3 := Lib.hid (((HF.out.alloc (.cells #[.int .i64 b0, .int .i64 b1] 24)).drewN 1).then_ HO.out.2 (fun k hk => .inl hk))
                          have hT3 := HOF.out.blk (show (wr.alloc (.cells #[.int .i64 b0, .int .i64 b1] 24)).drew.heap[w.heap.size]? = _ from HTW.out) (by
                            rintro (e | e)
                            · have h1 := HTB.out
                              have h2 := HKA.out.bB
                              omega
                            · have h1 := (row_block HKA.out.out e.symm).1
                              have h2 := HTB.out
                              omega)
                          have hF3 := HOF.out.blk (show (wr.alloc (.cells #[.int .i64 b0, .int .i64 b1] 24)).drew.heap[wr.heap.size]? = _ from HFW.out) (by
                            rintro (e | e)
                            · have h1 := HLT.out
                              omega
                            · have h1 := HOL.out _ e.symm
                              omega)
                          clear c0 c1 c2 c3 c4 c5 d0 d1 d2 d3 d4 d5 d5' u0 u1 v0 v1 z1 p0 p1 p2 p3 HO HOF
                          generalize hW3 : w3.setCell ⟨B, 5, none⟩ (.slice A1 (s.out.length + 1) k1) = W3 at *
                          clear hW3
                          obtain ⟨⟨y0, hy0⟩, ⟨y1, hy1⟩, hz0, hz1, hk4, hf4⟩ := hk3.leftset q hqN t0 t1
                          have hF4 := hf4.blk hF3 (by have := HLL2.out; omega)
                          have HF4 := Lib.hid (HF3.out.then_ hf4 (fun k hk => .inl (by rw [hk]; exact (row_block hk3.left (k := gl) (by simp [Value.ownBlock])).1)))
                          simp only [HMM.out] at hk4
                          have HK4 := Lib.hid hk4
                          have hneF : ¬ (gl = wr.heap.size) := by have := HLL2.out; omega
                          have hneF' : ¬ (wr.heap.size = gl) := by have := HLL2.out; omega
                          have hneT : ¬ (gl = w.heap.size) := by have h1 := (row_block hk3.left (k := gl) (by simp [Value.ownBlock])).1; have := HTB.out; omega
                          have hneT' : ¬ (w.heap.size = gl) := fun e => hneT e.symm
                          have HFREE := Lib.hid (free_any base B _ _ _ _ _ base t' ⟨b0, b1⟩ _ hk4.drew (by have h5 := hk4.drew.reads.lt; have h6 := hk4.br; exact Nat.le_of_lt (Nat.lt_of_le_of_lt h6 h5)) HLR.out (by show s.done.length ≤ _; omega) HRB.out (by have := HSB.out; show 0 ≤ s.sets _ ∧ s.sets _ ≤ (s.done.length : Int); rw [hlD]; exact this))
                          obtain ⟨c0, c1, c2, c3, c4, c5⟩ := blk6 hk3.blk
                          obtain ⟨u0, u1⟩ := cells2 hT3
                          obtain ⟨v0, v1⟩ := cells2 hF3
                          clear hk3 hk4 hf4 hF4 hF3 hT3 hlD hneT hneT'
                          go_wp2_with fail
                          go_region
                          all_goals
                            go_wp2_with fail
                            refine HFREE.out.mono ?_
                            rintro e w5 ⟨rfl, ⟨vr5, hk5⟩, hf5⟩
                            have HK5 := Lib.hid hk5
                            have HF5 := Lib.hid hf5
                            clear hk5 hf5
                            go_wp2_with fail
                            go_roundg (gk - 1)
                            case measure => have := HG.out; omega
                            case rel => exact ⟨q, hq, rfl, Lib.hid ⟨_, vr5, _, HK5.out, HMS2.out⟩, Lib.hid (HF4.out.then_ HF5.out (fun k hk => .inl hk))⟩
                      · rw [hb] at hdc
                        have HMN := Lib.hid (HM.out.next hqN hb)
                        clear hb hlL hlD
                        go_wp2_with fail
                        go_roundw
                        case rel => exact ⟨q + 1, by omega, by go_num, HKq, HMN, HF⟩
                        case measure => simp [intOf]; omega
                    · obtain rfl : q = N := by omega
                      obtain ⟨Ao, co, rfl, _, _⟩ := Kd.R_reads HKq.out.out
                      clear hlL hlD
                      go_wp2_with fail
                      try rw [Exit.noGoto_ret]
                      go_ret2
                      have hlo := HTB.out
                      refine ⟨below_then HB1.out HB1.out.size (HF.out.below (fun k hk => by rw [HBB.out]; exact hk)), .inr ⟨HK.out, _, s.out, rfl, Kd.R_lower HKq.out.out (by omega), HM.out.end_, ?_⟩⟩
                      have h1 := HM.out.outLen
                      have h2 := HLN.out
                      omega
  · go_wp2_with fail
    rw [Exit.noGoto_ret]
    go_ret2
    exact ⟨HB1.out, .inl ⟨by rw [HK.out]; exact hk0, by rw [HK.out]; rfl⟩⟩
end Go.Proofs.Ytameoapnhmoleaa
set_option linter.unusedVariables false
set_option linter.unusedSimpArgs false
namespace Go.Proofs.Ytameoapnhmoleaa
open Go.RowKit Go.Proofs.YtameoapnhmoleaaW.PrintWords Go.Proofs.YtameoapnhmoleaaW.PrintLast Go.Proofs.YtameoapnhmoleaaW.PrintMore
open PP

/-- Where the document's rounds stand. -/
structure RS (T : S24) (N : Nat) (L left out : List Mv) (g : Nat) : Prop where
  ends : ∀ o, Ends T left o → Ends T L (out ++ o)
  size : out.length + meas T left ≤ 2 * N
  left_ : meas T left ≤ g
  len : left.length ≤ N
  nd : (left.map (·.f0)).Nodup
  nt : ∀ m ∈ left, m.f0 ≠ T
section
variable {T : S24} {N g : Nat} {L left out : List Mv}
theorem RS.outLen (h : RS T N L left out g) : out.length ≤ 2 * N := Nat.le_trans (Nat.le_add_right _ _) h.size
theorem RS.start {l : List Mv} (hn : l.length ≤ N) (hd : (l.map (·.f0)).Nodup) (ht : ∀ m ∈ l, m.f0 ≠ T) : RS T N (filtL l) (filtL l) [] (2 * N) := by
  have hl : (filtL l).length ≤ l.length := List.filter_sublist.length_le
  have hm := meas_le T (filtL l)
  exact ⟨fun o h => by simpa using h, by simp; omega, by omega, by omega, (List.filter_sublist.map _).nodup hd, fun m hm => ht m (List.filter_sublist.mem hm)⟩
theorem RS.put {a b : List Mv} {m : Mv} (h : RS T N L (a ++ m :: b) out g) (h1 : ∀ x ∈ a, readB (a ++ m :: b) x.f0 = true) (h2 : readB (a ++ m :: b) m.f0 = false) : 0 < g ∧ RS T N L (a ++ b) (out ++ [m]) (g - 1) := by
  have hs : (a ++ b).Sublist (a ++ m :: b) := (List.Sublist.refl a).append (List.sublist_cons_self m b)
  have e : meas T (a ++ m :: b) = meas T a + ((if m.f1 = T then 1 else 2) + meas T b) := by rw [meas_append, meas]
  have e2 := meas_append T a b
  have hz := h.size
  have hl := h.left_
  have hp : 1 ≤ (if m.f1 = T then 1 else 2) := by split <;> omega
  refine ⟨by omega, ?_, by simp; omega, by omega, by have := hs.length_le; have := h.len; omega, (hs.map _).nodup h.nd, fun x hx => h.nt x (hs.mem hx)⟩
  intro o ho
  rw [List.append_assoc]
  exact h.ends _ (Ends.put a b m o h1 h2 ho)
theorem no_T {l : List Mv} (hn : (l.map (·.f0)).Nodup) (ht : ∀ m ∈ l, m.f0 ≠ T) (hr : ∀ x ∈ l, readB l x.f0 = true) : ∀ m ∈ l, m.f1 ≠ T := by
  intro m hm e
  have := nodup_back (l.map (·.f0)) (l.map (·.f1)) hn (fun x hx => by
    obtain ⟨y, hy, rfl⟩ := List.mem_map.1 hx
    obtain ⟨z, hz, e⟩ := readB_iff.1 (hr y hy)
    exact List.mem_map.2 ⟨z, hz, e⟩) (by simp) m.f1 (List.mem_map.2 ⟨m, hm, rfl⟩)
  obtain ⟨z, hz, e2⟩ := List.mem_map.1 this
  exact ht z hz (e2.trans e)
theorem RS.brk {b : List Mv} {m : Mv} (h : RS T N L (m :: b) out g) (h1 : ∀ x ∈ m :: b, readB (m :: b) x.f0 = true) : 0 < g ∧ RS T N L (⟨m.f0, T⟩ :: b) (out ++ [⟨T, m.f1⟩]) (g - 1) := by
  have hT := no_T h.nd h.nt h1 m (List.mem_cons_self ..)
  have e : meas T (m :: b) = 2 + meas T b := by rw [meas, if_neg hT]
  have e2 : meas T ((⟨m.f0, T⟩ : Mv) :: b) = 1 + meas T b := by rw [meas, if_pos rfl]
  have hz := h.size
  have hl := h.left_
  refine ⟨by omega, ?_, by simp; omega, by omega, h.len, h.nd, fun x hx => ?_⟩
  · intro o ho
    rw [List.append_assoc]
    exact h.ends _ (Ends.brk b m o h1 ho)
  · rcases List.mem_cons.1 hx with rfl | hx
    · exact h.nt m (List.mem_cons_self ..)
    · exact h.nt x (List.mem_cons_of_mem _ hx)
theorem RS.end_ (h : RS T N L [] out g) : Ends T L out := by
  have := h.ends [] Ends.nil
  rwa [List.append_nil] at this
end
theorem erase_mid {α : Type} (a b : List α) (x : α) : (a ++ x :: b).eraseIdx a.length = a ++ b := by
  induction a with
  | nil => rfl
  | cons y a ih => simp [ih]
end Go.Proofs.Ytameoapnhmoleaa
