/- What the moves do, done one behind the other; right and held, plain (chapter 13). -/
import Derived.Test.YtameoapnhmoleaaU
import Derived.Test.YtameoapnhmoleaaPG
set_option linter.unusedVariables false
set_option linter.unusedSimpArgs false
namespace Go.Proofs.Ytameoapnhmoleaa
open Go.RowKit Go.Proofs.YtameoapnhmoleaaW.PrintWords Go.Proofs.YtameoapnhmoleaaW.PrintLast Go.Proofs.YtameoapnhmoleaaW.PrintMore
open PP

/-- What a place holds; a number itself. -/
def val (s : S24 → Int) (p : S24) : Int := if p.f0 = 3 then p.f1 else s p
def runs : (S24 → Int) → List Mv → (S24 → Int)
  | s, [] => s
  | s, m :: l => runs (upd s m.f0 (val s m.f1)) l
theorem upd_other {s : S24 → Int} {p q : S24} {v : Int} (h : q ≠ p) : upd s p v q = s q := by
  unfold upd
  rw [if_neg (fun e => h ((eqL_iff _ _).1 e))]
theorem val_other {s : S24 → Int} {p q : S24} {v : Int} (h : q ≠ p) : val (upd s p v) q = val s q := by
  unfold val
  rw [upd_other h]
theorem not_read {l : List Mv} {p : S24} (h : readB l p = false) : ∀ x ∈ l, x.f1 ≠ p := by
  intro x hx e
  have : readB l p = true := readB_iff.2 ⟨x, hx, e⟩
  rw [h] at this
  cases this
theorem ends_run {T : S24} (hT : T.f0 ≠ 3) {L out : List Mv} (h : Ends T L out) : (L.map (·.f0)).Nodup → (∀ m ∈ L, m.f0 ≠ T) → ∀ s : S24 → Int, (∀ m ∈ L, runs s out m.f0 = val s m.f1) ∧ (∀ p, p ∉ L.map (·.f0) → p ≠ T → runs s out p = s p) := by
  induction h with
  | nil => intro _ _ s; exact ⟨fun m hm => (by cases hm), fun p _ _ => rfl⟩
  | put a b m o h1 h2 h3 ih =>
    intro hn ht s
    have hs : (a ++ b).Sublist (a ++ m :: b) := (List.Sublist.refl a).append (List.sublist_cons_self m b)
    obtain ⟨k1, k2⟩ := ih ((hs.map _).nodup hn) (fun x hx => ht x (hs.mem hx)) (upd s m.f0 (val s m.f1))
    have hm : m.f0 ∉ (a ++ b).map (·.f0) := by
      rw [List.map_append, List.map_cons] at hn
      intro hx
      rw [List.map_append] at hx
      have hp : (m.f0 :: (a.map (·.f0) ++ b.map (·.f0))).Nodup := (List.perm_middle.nodup_iff).1 hn
      exact (List.nodup_cons.1 hp).1 hx
    have hmT := ht m (by simp)
    have hr := not_read h2
    refine ⟨fun x hx => ?_, fun p hp hpT => ?_⟩
    · show runs (upd s m.f0 (val s m.f1)) o x.f0 = _
      rcases List.mem_append.1 hx with hx | hx
      · rw [k1 x (List.mem_append.2 (.inl hx)), val_other (hr x (by simp [hx]))]
      · rcases List.mem_cons.1 hx with rfl | hx
        · rw [k2 _ hm hmT, upd_self]
        · rw [k1 x (List.mem_append.2 (.inr hx)), val_other (hr x (by simp [hx]))]
    · show runs (upd s m.f0 (val s m.f1)) o p = _
      rw [List.map_append, List.map_cons] at hp
      rw [k2 p (fun hx => hp (by rw [List.map_append] at hx; rcases List.mem_append.1 hx with h | h <;> simp [h])) hpT, upd_other (fun e => hp (by simp [e]))]
  | brk b m o h1 h2 ih =>
    intro hn ht s
    have hnT := no_T hn ht h1
    obtain ⟨k1, k2⟩ := ih hn (fun x hx => by
      rcases List.mem_cons.1 hx with rfl | hx
      · exact ht m (List.mem_cons_self ..)
      · exact ht x (List.mem_cons_of_mem _ hx)) (upd s T (val s m.f1))
    refine ⟨fun x hx => ?_, fun p hp hpT => ?_⟩
    · show runs (upd s T (val s m.f1)) o x.f0 = _
      rcases List.mem_cons.1 hx with rfl | hx
      · have := k1 ⟨x.f0, T⟩ (List.mem_cons_self ..)
        simp only at this
        rw [this]
        show val (upd s T (val s x.f1)) T = _
        unfold val
        rw [if_neg hT, upd_self]
      · rw [k1 x (List.mem_cons_of_mem _ hx), val_other (hnT x (List.mem_cons_of_mem _ hx))]
    · show runs (upd s T (val s m.f1)) o p = _
      rw [k2 p hp hpT, upd_other hpT]
theorem ends_to {T : S24} {L out : List Mv} (h : Ends T L out) : ∀ m ∈ out, m.f0 = T ∨ m.f0 ∈ L.map (·.f0) := by
  induction h with
  | nil => intro m hm; cases hm
  | put a b m o _ _ _ ih =>
    intro x hx
    rcases List.mem_cons.1 hx with rfl | hx
    · exact .inr (by simp)
    · rcases ih x hx with h | h
      · exact .inl h
      · refine .inr ?_
        rw [List.map_append] at h
        rw [List.map_append, List.map_cons]
        rcases List.mem_append.1 h with h | h <;> simp [h]
  | brk b m o _ _ ih =>
    intro x hx
    rcases List.mem_cons.1 hx with rfl | hx
    · exact .inl rfl
    · rcases ih x hx with h | h
      · exact .inl h
      · exact .inr h
theorem place_kind {p : S24} (h : placeB p = true) : p.f0 = 1 ∨ p.f0 = 2 := by
  unfold placeB at h
  simp at h
  exact h.1
theorem bad_place {l : List Mv} {t : S24} (h : l.any (badM t) = false) : ∀ m ∈ l, placeB m.f0 = true := by
  intro m hm
  have hb : badM t m = false := by
    cases hb : badM t m
    · rfl
    · have : l.any (badM t) = true := List.any_eq_true.2 ⟨m, hm, hb⟩
      rw [h] at this; cases this
  unfold badM at hb
  simp only [Bool.or_eq_false_iff] at hb
  simpa using hb.1.1.1
/-- What a list of right moves does, for the temporary too. -/
theorem filt_run {T : S24} {l out : List Mv} (hr : refuseK l T = 0) (h : Ends T (filtL l) out) (s : S24 → Int) : ∀ m ∈ l, runs s out m.f0 = val s m.f1 := by
  obtain ⟨hp, hall, hd⟩ := good_of hr
  have hn := nodup_of hd
  have ht := fun m hm => (bad_nt hall m hm).1
  have hs : (filtL l).Sublist l := List.filter_sublist
  have hT : T.f0 ≠ 3 := by
    intro e
    unfold placeB at hp
    rw [e] at hp
    simp at hp
  obtain ⟨k1, k2⟩ := ends_run hT h ((hs.map _).nodup hn) (fun m hm => ht m (hs.mem hm)) s
  intro m hm
  by_cases he : eqL m.f1 m.f0 = true
  · have e := (eqL_iff _ _).1 he
    rw [k2 m.f0 ?_ (ht m hm)]
    · unfold val
      split
      · rename_i h
        rw [e] at h
        have := place_kind (bad_place hall m hm)
        omega
      · rw [e]
    · intro hx
      obtain ⟨x, hx, hxe⟩ := List.mem_map.1 hx
      have hxl := hs.mem hx
      have hxf : eqL x.f1 x.f0 = false := by
        have := (List.mem_filter.1 hx).2
        simpa using this
      have : x = m := by
        obtain ⟨i, hi⟩ := List.getElem?_of_mem hxl
        obtain ⟨j, hj⟩ := List.getElem?_of_mem hm
        have hi1 := (List.getElem?_eq_some_iff.1 hi).1
        have hj1 := (List.getElem?_eq_some_iff.1 hj).1
        have hi2 := (List.getElem?_eq_some_iff.1 hi).2
        have hj2 := (List.getElem?_eq_some_iff.1 hj).2
        have hij : i = j := by
          have hP := List.pairwise_iff_getElem.1 hn
          rcases Nat.lt_trichotomy i j with h | h | h
          · have := hP i j (by simpa using hi1) (by simpa using hj1) h
            rw [List.getElem_map, List.getElem_map, hi2, hj2] at this
            exact absurd hxe this
          · exact h
          · have := hP j i (by simpa using hj1) (by simpa using hi1) h
            rw [List.getElem_map, List.getElem_map, hi2, hj2] at this
            exact absurd hxe.symm this
        subst hij
        rw [hi] at hj
        injection hj
      rw [this, he] at hxf
      cases hxf
  · exact k1 m (List.mem_filter.2 ⟨hm, by simpa using he⟩)

/-! held -/
def H0 (p : S24) : Int := wrap64 ((wrap64 ((wrap64 (1000000007 * p.f0)) + (wrap64 (p.f1 * 31)))) + 5)
def stC : List S39 → (S24 → Int) := fun cs => cs.foldl (fun s c => upd s c.f0 c.f1) H0
theorem stC_snoc (cs : List S39) (c : S39) : stC (cs ++ [c]) = upd (stC cs) c.f0 c.f1 := by unfold stC; rw [List.foldl_append]; rfl
theorem rd39 (l : List S39) (i : Nat) : rd_T39 l (i : Int) = l.getD i z39 := by unfold rd_T39; rw [Int.toNat_natCast]
theorem take_snoc39 {l : List S39} {j : Nat} (hj : j < l.length) : l.take (j + 1) = l.take j ++ [l.getD j z39] := by
  rw [List.take_succ_eq_append_getElem hj, List.getD_eq_getElem?_getD, List.getElem?_eq_getElem hj]
  rfl
theorem heldl_ev (cs : List S39) (p : S24) (hl : cs.length ≤ 1000000) : ∀ j : Nat, j ≤ cs.length → Ev (fun k => quernlaw13_held.l0 k cs ((j : Int) - 1) p.f0 p.f1) (stC (cs.take j) p)
  | 0, _ => Ev.step (fun k => by rw [quernlaw13_held.l0, if_neg (by omega)]; rfl) (Ev.now _)
  | j + 1, h => by
    rw [take_snoc39 (by omega), stC_snoc]
    have e : ((j + 1 : Nat) : Int) - 1 = (j : Int) := by omega
    rw [e]
    by_cases he : eqL p (cs.getD j z39).f0 = true
    · have e2 : upd (stC (cs.take j)) (cs.getD j z39).f0 (cs.getD j z39).f1 p = (cs.getD j z39).f1 := by unfold upd; rw [if_pos he]
      rw [e2]
      rw [eqL_symm] at he
      exact Ev.step (fun k => by rw [quernlaw13_held.l0, if_pos (by omega), if_pos (by omega), if_pos (by omega), rd39, if_pos (by exact he)]) (Ev.now _)
    · have e2 : upd (stC (cs.take j)) (cs.getD j z39).f0 (cs.getD j z39).f1 p = stC (cs.take j) p := by unfold upd; rw [if_neg he]
      rw [e2]
      rw [eqL_symm] at he
      refine Ev.step (fun k => ?_) (heldl_ev cs p hl j (by omega))
      have hw : wrap64 ((j : Int) - 1) = (j : Int) - 1 := by unfold wrap64; omega
      rw [quernlaw13_held.l0, if_pos (by omega), if_pos (by omega), if_pos (by omega), rd39, if_neg (by exact he), hw]
theorem held_ev (cs : List S39) (p : S24) (hl : cs.length ≤ 1000000) : Ev (fun k => quernlaw13_held.f k cs p.f0 p.f1) (val (stC cs) p) := by
  unfold quernlaw13_held.f val
  by_cases h : p.f0 = 3
  · simp only [if_pos h]
    exact Ev.now _
  · simp only [if_neg h]
    have := heldl_ev cs p hl cs.length (Nat.le_refl _)
    rw [List.take_length] at this
    have hw : wrap64 ((cs.length : Int) - 1) = (cs.length : Int) - 1 := by unfold wrap64; omega
    rw [hw]
    exact this
end Go.Proofs.Ytameoapnhmoleaa
