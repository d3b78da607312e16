/- How many circles there are, plain (chapter 13). -/
import Derived.Test.YtameoapnhmoleaaDA
set_option linter.unusedVariables false
set_option linter.unusedSimpArgs false
namespace Go.Proofs.Ytameoapnhmoleaa
open Go.RowKit Go.Proofs.YtameoapnhmoleaaW.PrintWords Go.Proofs.YtameoapnhmoleaaW.PrintLast Go.Proofs.YtameoapnhmoleaaW.PrintMore
open PP

/-- What the move that sets a place reads. -/
def stp : List Mv → S24 → Option S24
  | [], _ => none
  | m :: l, p => if m.f0 = p then some m.f1 else stp l p
theorem stp_none {l : List Mv} {p : S24} (h : p ∉ l.map (·.f0)) : stp l p = none := by
  induction l with
  | nil => rfl
  | cons m l ih =>
    simp only [List.map_cons, List.mem_cons, not_or] at h
    rw [stp, if_neg (fun e => h.1 e.symm), ih h.2]
theorem stp_some {l : List Mv} {m : Mv} (hn : (l.map (·.f0)).Nodup) (h : m ∈ l) : stp l m.f0 = some m.f1 := by
  induction l with
  | nil => cases h
  | cons x l ih =>
    rw [List.map_cons, List.nodup_cons] at hn
    rw [stp]
    rcases List.mem_cons.1 h with rfl | h
    · rw [if_pos rfl]
    · rw [if_neg (fun e => hn.1 (by rw [e]; exact List.mem_map.2 ⟨m, h, rfl⟩)), ih hn.2 h]
theorem stp_mem {l : List Mv} {p q : S24} (h : stp l p = some q) : ∃ m ∈ l, m.f0 = p ∧ m.f1 = q := by
  induction l with
  | nil => cases h
  | cons x l ih =>
    rw [stp] at h
    split at h
    · rename_i e
      injection h with h
      exact ⟨x, List.mem_cons_self .., e, h⟩
    · obtain ⟨m, hm, e⟩ := ih h
      exact ⟨m, List.mem_cons_of_mem _ hm, e⟩
def itr (l : List Mv) : Nat → S24 → Option S24
  | 0, p => some p
  | n + 1, p => (itr l n p).bind (stp l)
theorem itr_add (l : List Mv) (a : Nat) (p : S24) : ∀ b : Nat, itr l (a + b) p = (itr l a p).bind (itr l b)
  | 0 => by cases h : itr l a p <;> simp [itr, h]
  | b + 1 => by
    rw [← Nat.add_assoc, itr, itr_add l a p b]
    cases h : itr l a p <;> simp [itr]
theorem itr_succ (l : List Mv) (n : Nat) (p : S24) : itr l (n + 1) p = (stp l p).bind (itr l n) := by
  rw [Nat.add_comm, itr_add]
  cases h : stp l p <;> simp [itr, h]
theorem itr_mem {l : List Mv} {n : Nat} {p q : S24} (h : itr l (n + 1) p = some q) : ∃ m ∈ l, m.f1 = q := by
  rw [itr, Option.bind_eq_some_iff] at h
  obtain ⟨r, _, h⟩ := h
  obtain ⟨m, hm, _, e⟩ := stp_mem h
  exact ⟨m, hm, e⟩
def cyc (l : List Mv) (p : S24) : Prop := ∃ n, itr l (n + 1) p = some p
/-- The first one of its circle: pre stands ahead of it. -/
def lead (l pre : List Mv) (x : Mv) : Prop := cyc l x.f0 ∧ ∀ y ∈ pre, ∀ q, itr l q x.f0 ≠ some y.f0
open Classical in
noncomputable def cntA (l : List Mv) : List Mv → List Mv → Nat
  | _, [] => 0
  | pre, x :: r => (if lead l pre x then 1 else 0) + cntA l (pre ++ [x]) r
noncomputable def cnt (l : List Mv) : Nat := cntA l [] l
theorem cntA_same {l l' : List Mv} : ∀ (r pre pre' : List Mv), (∀ a x b, r = a ++ x :: b → (lead l (pre ++ a) x ↔ lead l' (pre' ++ a) x)) → cntA l pre r = cntA l' pre' r
  | [], _, _, _ => rfl
  | x :: r, pre, pre', h => by
    have h0 := h [] x r rfl
    simp only [List.append_nil] at h0
    rw [cntA, cntA, cntA_same r (pre ++ [x]) (pre' ++ [x]) (fun a y b e => by
      have := h (x :: a) y b (by rw [e]; rfl)
      simpa using this)]
    by_cases hl : lead l pre x
    · rw [if_pos hl, if_pos (h0.1 hl)]
    · rw [if_neg hl, if_neg (fun h => hl (h0.2 h))]
theorem cntA_append (l : List Mv) : ∀ (a b pre : List Mv), cntA l pre (a ++ b) = cntA l pre a + cntA l (pre ++ a) b
  | [], b, pre => by simp [cntA]
  | x :: a, b, pre => by
    rw [List.cons_append, cntA, cntA, cntA_append l a b]
    simp only [List.append_assoc, List.singleton_append]
    omega
theorem itr_hit {l l' : List Mv} {z : S24} (hs : ∀ p, p ≠ z → stp l p = stp l' p) {x : S24} (h : ∀ q, itr l q x ≠ some z) : ∀ q, itr l q x = itr l' q x
  | 0 => rfl
  | q + 1 => by
    rw [itr, itr, ← itr_hit hs h q]
    cases e : itr l q x with
    | none => rfl
    | some p =>
      have : p ≠ z := fun e2 => h q (by rw [e, e2])
      exact hs p this
theorem stp_app {a b : List Mv} {m : Mv} {p : S24} (h : p ≠ m.f0) : stp (a ++ m :: b) p = stp (a ++ b) p := by
  induction a with
  | nil => rw [List.nil_append, List.nil_append, stp, if_neg (fun e => h e.symm)]
  | cons x a ih => rw [List.cons_append, List.cons_append, stp, stp, ih]
theorem cnt_put {a b : List Mv} {m : Mv} (hn : ((a ++ m :: b).map (·.f0)).Nodup) (hr : readB (a ++ m :: b) m.f0 = false) : cnt (a ++ m :: b) = cnt (a ++ b) := by
  have hnr := not_read hr
  have hno : ∀ n p, itr (a ++ m :: b) (n + 1) p ≠ some m.f0 := fun n p h => by
    obtain ⟨x, hx, e⟩ := itr_mem h
    exact hnr x hx e
  have hmn : ∀ x ∈ a ++ b, x.f0 ≠ m.f0 := by
    intro x hx e
    have hp : (m.f0 :: ((a ++ b).map (·.f0))).Nodup := by
      rw [List.map_append, List.map_cons] at hn
      rw [List.map_append]
      exact (List.perm_middle.nodup_iff).1 hn
    exact (List.nodup_cons.1 hp).1 (List.mem_map.2 ⟨x, hx, e⟩)
  have hsame : ∀ x ∈ a ++ b, ∀ q, itr (a ++ m :: b) q x.f0 = itr (a ++ b) q x.f0 := fun x hx =>
    itr_hit (z := m.f0) (fun p hp => stp_app hp) (fun q h => by
      cases q with
      | zero => injection h with h; exact hmn x hx h
      | succ q => exact hno q _ h)
  have hlead : ∀ x ∈ a ++ b, ∀ pre pre', (∀ y, y ∈ pre ↔ y ∈ pre' ∨ (y = m ∧ m ∈ pre)) → (lead (a ++ m :: b) pre x ↔ lead (a ++ b) pre' x) := by
    intro x hx pre pre' hp
    unfold lead cyc
    simp only [hsame x hx]
    constructor
    · rintro ⟨h1, h2⟩
      exact ⟨h1, fun y hy => h2 y ((hp y).2 (.inl hy))⟩
    · rintro ⟨h1, h2⟩
      refine ⟨h1, fun y hy q h => ?_⟩
      rcases (hp y).1 hy with hy | ⟨rfl, _⟩
      · exact h2 y hy q h
      · rw [← hsame x hx] at h
        cases q with
        | zero => injection h with h; exact hmn x hx h
        | succ q => exact hno q _ h
  unfold cnt
  rw [cntA_append, cntA_append, cntA]
  rw [if_neg (fun h : lead _ _ m => by obtain ⟨n, h⟩ := h.1; exact hno n _ h)]
  rw [cntA_same a [] [] (fun c x d e => hlead x (by rw [e]; simp) _ _ (fun y => ⟨.inl, fun h => by
    rcases h with h | ⟨_, h⟩
    · exact h
    · rw [List.nil_append] at h
      exact absurd rfl (hmn m (by rw [e]; simp [h]))⟩))]
  rw [cntA_same b (([] : List Mv) ++ a ++ [m]) ([] ++ a) (fun c x d e => hlead x (by rw [e]; simp) _ _ (fun y => by
    simp only [List.nil_append, List.append_assoc, List.singleton_append, List.mem_append, List.mem_cons]
    constructor
    · rintro (h | rfl | h)
      · exact .inl (.inl h)
      · exact .inr ⟨rfl, by simp⟩
      · exact .inl (.inr h)
    · rintro ((h | h) | ⟨rfl, _⟩)
      · exact .inl h
      · exact .inr (.inr h)
      · simp))]
  omega

/-! a circle is broken -/
theorem nodup_img {α : Type} [DecidableEq α] : ∀ (xs ys : List α), xs.Nodup → (∀ x ∈ xs, x ∈ ys) → ys.length ≤ xs.length → ys.Nodup
  | [], ys, _, _, hl => by
    cases ys with
    | nil => exact List.nodup_nil
    | cons z ys => simp at hl
  | x :: xs, ys, hn, hs, hl => by
    have hx : x ∈ ys := hs x (List.mem_cons_self ..)
    rw [List.nodup_cons] at hn
    have hp := List.perm_cons_erase hx
    have hle := hp.length_eq
    have hsub : ∀ z ∈ xs, z ∈ ys.erase x := fun z hz => (List.mem_erase_of_ne (show z ≠ x from by rintro rfl; exact hn.1 hz)).2 (hs z (List.mem_cons_of_mem _ hz))
    have hl2 : (ys.erase x).length ≤ xs.length := by simp only [List.length_cons] at *; omega
    have ih := nodup_img xs (ys.erase x) hn.2 hsub hl2
    rw [hp.nodup_iff, List.nodup_cons]
    refine ⟨fun h => ?_, ih⟩
    exact hn.1 (nodup_back xs (ys.erase x) hn.2 hsub hl2 x h)
theorem all_cyc {l : List Mv} (hn : (l.map (·.f0)).Nodup) (hr : ∀ x ∈ l, readB l x.f0 = true) : ∀ m ∈ l, cyc l m.f0 := by
  have hsub : ∀ x ∈ l.map (·.f0), x ∈ l.map (·.f1) := fun x hx => by
    obtain ⟨y, hy, rfl⟩ := List.mem_map.1 hx
    obtain ⟨z, hz, e⟩ := readB_iff.1 (hr y hy)
    exact List.mem_map.2 ⟨z, hz, e⟩
  have hnd : (l.map (·.f1)).Nodup := nodup_img _ _ hn hsub (by simp)
  have hback : ∀ y ∈ l.map (·.f1), y ∈ l.map (·.f0) := nodup_back _ _ hn hsub (by simp)
  have hinj : ∀ x ∈ l, ∀ y ∈ l, x.f1 = y.f1 → x = y := by
    intro x hx y hy e
    obtain ⟨i, hi⟩ := List.getElem?_of_mem hx
    obtain ⟨j, hj⟩ := List.getElem?_of_mem hy
    obtain ⟨hi1, hi2⟩ := List.getElem?_eq_some_iff.1 hi
    obtain ⟨hj1, hj2⟩ := List.getElem?_eq_some_iff.1 hj
    have hP := List.pairwise_iff_getElem.1 hnd
    have hij : i = j := by
      rcases Nat.lt_trichotomy i j with h | h | h
      · have := hP i j (by simpa using hi1) (by simpa using hj1) h
        rw [List.getElem_map, List.getElem_map, hi2, hj2] at this
        exact absurd e this
      · exact h
      · have := hP j i (by simpa using hj1) (by simpa using hi1) h
        rw [List.getElem_map, List.getElem_map, hi2, hj2] at this
        exact absurd e.symm this
    subst hij
    rw [hi] at hj
    injection hj
  intro m hm
  have hdef : ∀ q, ∃ x ∈ l, itr l q m.f0 = some x.f0 := by
    intro q
    induction q with
    | zero => exact ⟨m, hm, rfl⟩
    | succ q ih =>
      obtain ⟨x, hx, e⟩ := ih
      obtain ⟨y, hy, e2⟩ := List.mem_map.1 (hback x.f1 (List.mem_map.2 ⟨x, hx, rfl⟩))
      refine ⟨y, hy, ?_⟩
      rw [itr, e, Option.bind_some, stp_some hn hx, e2]
  -- two of the first steps are one
  have hrep : ∃ a b, a < b ∧ itr l a m.f0 = itr l b m.f0 := by
    apply Classical.byContradiction
    intro hno
    have hP : ((List.range (l.length + 1)).map (fun q => (itr l q m.f0).getD m.f0)).Nodup := by
      refine List.pairwise_iff_getElem.2 fun i j hi hj hij e => ?_
      simp only [List.getElem_map, List.getElem_range] at e
      obtain ⟨x, hx, e1⟩ := hdef i
      obtain ⟨y, hy, e2⟩ := hdef j
      rw [e1, e2] at e
      exact hno ⟨i, j, hij, by rw [e1, e2]; exact congrArg some e⟩
    have := nodup_len _ (l.map (·.f0)) hP (fun z hz => by
      simp only [List.mem_map, List.mem_range] at hz
      obtain ⟨q, _, rfl⟩ := hz
      obtain ⟨x, hx, e⟩ := hdef q
      rw [e]
      exact List.mem_map.2 ⟨x, hx, rfl⟩)
    simp only [List.length_map, List.length_range] at this
    omega
  obtain ⟨a, b, hab, e⟩ := hrep
  -- back to the beginning
  have hbk : ∀ a b, a < b → itr l a m.f0 = itr l b m.f0 → itr l 0 m.f0 = itr l (b - a) m.f0 := by
    intro a
    induction a with
    | zero => intro b _ e; exact e
    | succ a ih =>
      intro b hab e
      obtain ⟨b, rfl⟩ : ∃ c, b = c + 1 := ⟨b - 1, by omega⟩
      obtain ⟨x, hx, e1⟩ := hdef a
      obtain ⟨y, hy, e2⟩ := hdef b
      rw [itr, itr, e1, e2, Option.bind_some, Option.bind_some, stp_some hn hx, stp_some hn hy] at e
      injection e with e
      have := hinj x hx y hy e
      subst this
      have := ih b (by omega) (by rw [e1, e2])
      rwa [show b + 1 - (a + 1) = b - a by omega]
  have := hbk a b hab e
  exact ⟨b - a - 1, by rw [show b - a - 1 + 1 = b - a by omega, ← this]; rfl⟩
theorem stp_brk {b : List Mv} {m m' : Mv} (e : m'.f0 = m.f0) {p : S24} (h : p ≠ m.f0) : stp (m :: b) p = stp (m' :: b) p := by
  rw [stp, stp, if_neg (fun h2 => h h2.symm), if_neg (fun h2 => h (by rw [← h2, e]))]
theorem cnt_brk {T : S24} {b : List Mv} {m : Mv} (hn : ((m :: b).map (·.f0)).Nodup) (ht : ∀ x ∈ m :: b, x.f0 ≠ T) (hr : ∀ x ∈ m :: b, readB (m :: b) x.f0 = true) : cnt (m :: b) = cnt (⟨m.f0, T⟩ :: b) + 1 := by
  have hT : stp ((⟨m.f0, T⟩ : Mv) :: b) T = none := stp_none (fun h => by
    obtain ⟨x, hx, e⟩ := List.mem_map.1 h
    rcases List.mem_cons.1 hx with rfl | hx
    · exact ht m (List.mem_cons_self ..) e
    · exact ht x (List.mem_cons_of_mem _ hx) e)
  have hm1 : stp ((⟨m.f0, T⟩ : Mv) :: b) m.f0 = some T := by rw [stp, if_pos rfl]
  have hdead : ∀ q, itr ((⟨m.f0, T⟩ : Mv) :: b) (q + 2) m.f0 = none := by
    intro q
    rw [itr_succ, hm1, Option.bind_some, itr_succ, hT]
    rfl
  have hx : ∀ x ∈ b, ∀ pre, (lead (m :: b) (m :: pre) x ↔ lead (⟨m.f0, T⟩ :: b) (⟨m.f0, T⟩ :: pre) x) := by
    intro x hxb pre
    by_cases hh : ∀ q, itr (m :: b) q x.f0 ≠ some m.f0
    · have hs := itr_hit (l := m :: b) (l' := ⟨m.f0, T⟩ :: b) (z := m.f0) (fun p hp => stp_brk (m := m) (m' := ⟨m.f0, T⟩) rfl hp) hh
      unfold lead cyc
      simp only [← hs]
      constructor
      · rintro ⟨h1, h2⟩
        refine ⟨h1, fun y hy q => ?_⟩
        rcases List.mem_cons.1 hy with rfl | hy
        · exact hh q
        · exact h2 y (List.mem_cons_of_mem _ hy) q
      · rintro ⟨h1, h2⟩
        refine ⟨h1, fun y hy q => ?_⟩
        rcases List.mem_cons.1 hy with rfl | hy
        · exact hh q
        · exact h2 y (List.mem_cons_of_mem _ hy) q
    · have hh : ∃ q, itr (m :: b) q x.f0 = some m.f0 := by
        apply Classical.byContradiction
        intro h
        exact hh (fun q e => h ⟨q, e⟩)
      constructor
      · rintro ⟨_, h2⟩
        obtain ⟨q, e⟩ := hh
        exact absurd e (h2 m (List.mem_cons_self ..) q)
      · rintro ⟨h1, h2⟩
        exfalso
        -- in the broken list, too, it comes to m.f0
        have hh2 : ∃ q, itr ((⟨m.f0, T⟩ : Mv) :: b) q x.f0 = some m.f0 := by
          apply Classical.byContradiction
          intro hno
          have := itr_hit (l := ⟨m.f0, T⟩ :: b) (l' := m :: b) (z := m.f0) (fun p hp => (stp_brk (m := m) (m' := ⟨m.f0, T⟩) rfl hp).symm) (fun q e => hno ⟨q, e⟩)
          obtain ⟨q, e⟩ := hh
          exact hno ⟨q, by rw [this, e]⟩
        obtain ⟨q, e⟩ := hh2
        exact h2 ⟨m.f0, T⟩ (List.mem_cons_self ..) q e
  unfold cnt
  rw [cntA, cntA, if_pos ⟨all_cyc hn hr m (List.mem_cons_self ..), fun y hy => by cases hy⟩, if_neg (fun h => by
    obtain ⟨n, h⟩ := h.1
    have h : itr ((⟨m.f0, T⟩ : Mv) :: b) (n + 1) m.f0 = some m.f0 := h
    cases n with
    | zero =>
      rw [itr_succ, hm1, Option.bind_some] at h
      injection h with h
      exact ht m (List.mem_cons_self ..) h.symm
    | succ n => rw [hdead] at h; cases h)]
  rw [cntA_same b ([] ++ [m]) ([] ++ [⟨m.f0, T⟩]) (fun c x d e => hx x (by rw [e]; simp) c)]
  omega
theorem ends_len {T : S24} {L out : List Mv} (h : Ends T L out) : (L.map (·.f0)).Nodup → (∀ m ∈ L, m.f0 ≠ T) → out.length = L.length + cnt L := by
  induction h with
  | nil => intro _ _; rfl
  | put a b m o h1 h2 h3 ih =>
    intro hn ht
    have hs : (a ++ b).Sublist (a ++ m :: b) := (List.Sublist.refl a).append (List.sublist_cons_self m b)
    have := ih ((hs.map _).nodup hn) (fun x hx => ht x (hs.mem hx))
    rw [cnt_put hn h2, List.length_cons, this]
    simp
    omega
  | brk b m o h1 h2 ih =>
    intro hn ht
    have := ih hn (fun x hx => by
      rcases List.mem_cons.1 hx with rfl | hx
      · exact ht m (List.mem_cons_self ..)
      · exact ht x (List.mem_cons_of_mem _ hx))
    rw [cnt_brk hn ht h1, List.length_cons, this]
    simp
    omega
end Go.Proofs.Ytameoapnhmoleaa
