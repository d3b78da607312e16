/- circles and MovesCount, plain (chapter 13). -/
import Derived.Test.YtameoapnhmoleaaDF
import Derived.Test.YtameoapnhmoleaaDB
import Derived.Test.YtameoapnhmoleaaPE
set_option linter.unusedVariables false
set_option linter.unusedSimpArgs false
namespace Go.Proofs.Ytameoapnhmoleaa
open Go.RowKit Go.Proofs.YtameoapnhmoleaaW.PrintWords Go.Proofs.YtameoapnhmoleaaW.PrintLast Go.Proofs.YtameoapnhmoleaaW.PrintMore
open PP

abbrev at_ (l : List Mv) (k : Nat) : Mv := l.getD k z36
/-- The move that sets p and does not stay. -/
def hitB (l : List Mv) (p : S24) (j : Nat) : Bool := eqL (at_ l j).f0 p && !eqL (at_ l j).f1 (at_ l j).f0
def nxO (l : List Mv) (k : Nat) : Option Nat := (List.range l.length).find? (hitB l (at_ l k).f1)
theorem nxO_some {l : List Mv} {k j : Nat} (h : nxO l k = some j) : j < l.length ∧ (at_ l j).f0 = (at_ l k).f1 ∧ eqL (at_ l j).f1 (at_ l j).f0 = false := by
  have h1 := List.find?_some h
  have h2 := List.mem_of_find?_eq_some h
  unfold hitB at h1
  rw [Bool.and_eq_true] at h1
  exact ⟨List.mem_range.1 h2, (eqL_iff _ _).1 h1.1, by simpa using h1.2⟩
theorem nxO_none {l : List Mv} {k : Nat} (h : nxO l k = none) : ∀ j, j < l.length → hitB l (at_ l k).f1 j = false := by
  intro j hj
  have := List.find?_eq_none.1 h j (List.mem_range.2 hj)
  simpa using this
theorem at_mem {l : List Mv} {k : Nat} (h : k < l.length) : at_ l k ∈ l := getD_mem h
theorem at_inj {l : List Mv} (hn : (l.map (·.f0)).Nodup) {i j : Nat} (hi : i < l.length) (hj : j < l.length) (h : (at_ l i).f0 = (at_ l j).f0) : i = j := by
  have hP := List.pairwise_iff_getElem.1 hn
  have e1 : ∀ k (hk : k < l.length), at_ l k = l[k] := fun k hk => by unfold at_; rw [List.getD_eq_getElem?_getD, List.getElem?_eq_getElem hk]; rfl
  rw [e1 i hi, e1 j hj] at h
  rcases Nat.lt_trichotomy i j with h2 | h2 | h2
  · have := hP i j (by simpa using hi) (by simpa using hj) h2
    rw [List.getElem_map, List.getElem_map] at this
    exact absurd h this
  · exact h2
  · have := hP j i (by simpa using hj) (by simpa using hi) h2
    rw [List.getElem_map, List.getElem_map] at this
    exact absurd h.symm this
def goB (l : List Mv) (i : Nat) : Nat → Nat → Bool → Bool
  | 0, _, _ => false
  | f + 1, k, b => match nxO l k with
    | none => false
    | some j => if j = i then (b && decide (i ≤ j)) else goB l i f j (b && decide (i ≤ j))
section
variable {l : List Mv}
theorem circ2_none (hl : l.length ≤ 1000) (i k s : Nat) (hk : k < l.length) (c : Int) (b : Bool) (r : Int) (hh : ∀ j, j < l.length → hitB l (at_ l k).f1 j = false) (hi : i < l.length)
    (h : Ev (fun q => quernlaw13_circles.l0 q l c ((i + 1 : Nat) : Int)) r) : ∀ (d j : Nat), j + d = l.length → Ev (fun q => quernlaw13_circles.l2 q l c (i : Int) (k : Int) b (s : Int) (-1) (j : Int)) r
  | 0, j, hj => by
    refine Ev.step (fun q => ?_) h
    rw [quernlaw13_circles.l2, if_neg (by omega), if_pos (by omega), wrap_nat i (by omega)]
  | d + 1, j, hj => by
    refine Ev.step (fun q => ?_) (circ2_none hl i k s hk c b r hh hi h d (j + 1) (by omega))
    have := hh j (by omega)
    unfold hitB at this
    rw [quernlaw13_circles.l2, if_pos (by omega), if_pos (by omega), if_pos (by omega), if_pos (by omega), rd36, rd36, wrap_nat j (by omega)]
    by_cases h1 : eqL (at_ l j).f0 (at_ l k).f1 = true
    · rw [h1, Bool.true_and] at this
      have h2 : eqL (at_ l j).f1 (at_ l j).f0 = true := by simpa using this
      have e := (eqL_iff _ _).1 h2
      rw [if_pos (by exact h1), if_neg (by have e : (l.getD j z36).f1 = (l.getD j z36).f0 := e; rw [e]; simp)]
    · rw [if_neg (by exact h1)]
theorem stay_text (m : Mv) : (!(m.f1.f0 == m.f0.f0) || !(m.f1.f1 == m.f0.f1)) = !eqL m.f1 m.f0 := by unfold eqL; rw [Bool.not_and]
theorem circ2_some (hn : (l.map (·.f0)).Nodup) (hl : l.length ≤ 1000) (i k s : Nat) (hk : k < l.length) (c : Int) (b : Bool) (r : Int) (j0 : Nat) (hj0 : j0 < l.length) (he : (at_ l j0).f0 = (at_ l k).f1) (hs : eqL (at_ l j0).f1 (at_ l j0).f0 = false)
    (h : Ev (fun q => quernlaw13_circles.j3 q l c (i : Int) (b && decide (i ≤ j0)) (s : Int) (j0 : Int)) r) : ∀ (d j : Nat), j + d = l.length → Ev (fun q => quernlaw13_circles.l2 q l c (i : Int) (k : Int) b (s : Int) (if j ≤ j0 then -1 else (j0 : Int)) (j : Int)) r
  | 0, j, hj => by
    rw [if_neg (by omega)]
    refine Ev.step (fun q => ?_) h
    rw [quernlaw13_circles.l2, if_neg (by omega), if_neg (by omega)]
    cases b with
    | true =>
      rw [if_pos rfl, Bool.true_and]
      congr 1
      exact decide_eq_decide.2 (by omega)
    | false => rw [if_neg (by decide), Bool.false_and]
  | d + 1, j, hj => by
    refine Ev.step (fun q => ?_) (circ2_some hn hl i k s hk c b r j0 hj0 he hs h d (j + 1) (by omega))
    rw [quernlaw13_circles.l2, if_pos (by omega), if_pos (by omega), if_pos (by omega), if_pos (by omega), rd36, rd36, wrap_nat j (by omega)]
    by_cases hjj : j = j0
    · subst hjj
      rw [if_pos (by exact (eqL_iff _ _).2 he), stay_text, if_pos (by rw [show eqL (l.getD j z36).f1 (l.getD j z36).f0 = false from hs]; rfl), if_neg (by omega)]
    · rw [if_neg (show ¬ (((l.getD j z36).f0.f0 == (l.getD k z36).f1.f0 && (l.getD j z36).f0.f1 == (l.getD k z36).f1.f1) = true) from fun h1 => hjj (at_inj hn (by omega) hj0 (((eqL_iff (at_ l j).f0 (at_ l k).f1).1 h1).trans he.symm)))]
      by_cases h2 : j ≤ j0
      · rw [if_pos h2, if_pos (by omega)]
      · rw [if_neg h2, if_neg (by omega)]
theorem circ1_ev (hn : (l.map (·.f0)).Nodup) (hl : l.length ≤ 1000) (i : Nat) (hi : i < l.length) (c : Nat) (hc : c ≤ 2000) (r : Int) :
    ∀ (f k s : Nat) (b : Bool), s + f = l.length + 1 → k < l.length → Ev (fun q => quernlaw13_circles.l0 q l ((c + (if goB l i f k b = true then 1 else 0) : Nat) : Int) ((i + 1 : Nat) : Int)) r → Ev (fun q => quernlaw13_circles.l1 q l (c : Int) (i : Int) (k : Int) b (s : Int)) r
  | 0, k, s, b, hs, hk, h => by
    refine Ev.step (fun q => ?_) h
    rw [quernlaw13_circles.l1, if_neg (by omega), wrap_nat i (by omega)]
    rfl
  | f + 1, k, s, b, hs, hk, h => by
    cases hnx : nxO l k with
    | none =>
      have e : goB l i (f + 1) k b = false := by rw [goB, hnx]
      rw [e] at h
      refine Ev.step (fun q => ?_) (circ2_none hl i k s hk c b r (nxO_none hnx) hi h l.length 0 (by omega))
      rw [quernlaw13_circles.l1, if_pos (by omega)]
      rfl
    | some j =>
      obtain ⟨h1, h2, h3⟩ := nxO_some hnx
      refine Ev.step (fun q => ?_) (circ2_some hn hl i k s hk c b r j h1 h2 h3 ?_ l.length 0 (by omega))
      · rw [quernlaw13_circles.l1, if_pos (by omega), if_pos (Nat.zero_le _)]
        rfl
      · by_cases hji : j = i
        · have e : goB l i (f + 1) k b = (b && decide (i ≤ j)) := by rw [goB, hnx]; exact if_pos hji
          rw [e] at h
          refine Ev.step (fun q => ?_) h
          rw [quernlaw13_circles.j3, if_pos (by omega), wrap_nat i (by omega), wrap_nat c (by omega)]
          cases (b && decide (i ≤ j)) <;> rfl
        · have e : goB l i (f + 1) k b = goB l i f j (b && decide (i ≤ j)) := by rw [goB, hnx]; exact if_neg hji
          rw [e] at h
          refine Ev.step (fun q => ?_) (circ1_ev hn hl i hi c hc r f j (s + 1) _ (by omega) h1 h)
          rw [quernlaw13_circles.j3, if_neg (by omega), wrap_nat s (by omega)]
theorem filtL_mem {m : Mv} : m ∈ filtL l ↔ m ∈ l ∧ eqL m.f1 m.f0 = false := by
  unfold filtL
  rw [List.mem_filter]
  simp
theorem filtL_nodup (hn : (l.map (·.f0)).Nodup) : ((filtL l).map (·.f0)).Nodup := (List.filter_sublist.map _).nodup hn
theorem itr_per {L : List Mv} {p : S24} {m : Nat} (h : itr L m p = some p) : ∀ q, itr L (m * q) p = some p
  | 0 => rfl
  | q + 1 => by rw [Nat.mul_succ, itr_add, itr_per h q]; exact h
theorem goB_true (hn : (l.map (·.f0)).Nodup) (i : Nat) : ∀ (f k : Nat) (b : Bool), k < l.length → eqL (at_ l k).f1 (at_ l k).f0 = false → goB l i f k b = true →
    b = true ∧ ∃ m, itr (filtL l) (m + 1) (at_ l k).f0 = some (at_ l i).f0 ∧ ∀ q, q ≤ m → ∃ j, i ≤ j ∧ j < l.length ∧ itr (filtL l) (q + 1) (at_ l k).f0 = some (at_ l j).f0
  | 0, k, b, hk, hs, h => by cases h
  | f + 1, k, b, hk, hs, h => by
    rw [goB] at h
    cases hnx : nxO l k with
    | none => rw [hnx] at h; cases h
    | some j =>
      rw [hnx] at h
      obtain ⟨h1, h2, h3⟩ := nxO_some hnx
      have hst : stp (filtL l) (at_ l k).f0 = some (at_ l j).f0 := by rw [stp_some (filtL_nodup hn) (filtL_mem.2 ⟨at_mem hk, hs⟩), h2]
      have hi1 : itr (filtL l) 1 (at_ l k).f0 = some (at_ l j).f0 := by rw [itr_succ, hst]; rfl
      by_cases hji : j = i
      · have h : (b && decide (i ≤ j)) = true := by simpa [hji] using h
        rw [Bool.and_eq_true] at h
        refine ⟨h.1, 0, by rw [← hji]; exact hi1, fun q hq => ?_⟩
        obtain rfl : q = 0 := by omega
        exact ⟨j, by omega, h1, hi1⟩
      · have h : goB l i f j (b && decide (i ≤ j)) = true := by simpa [hji] using h
        obtain ⟨hb, m, k1, k2⟩ := goB_true hn i f j _ h1 h3 h
        rw [Bool.and_eq_true] at hb
        refine ⟨hb.1, m + 1, ?_, fun q hq => ?_⟩
        · rw [itr_succ, hst]; exact k1
        · cases q with
          | zero => exact ⟨j, of_decide_eq_true hb.2, h1, hi1⟩
          | succ q =>
            obtain ⟨j2, a1, a2, a3⟩ := k2 q (by omega)
            exact ⟨j2, a1, a2, by rw [itr_succ, hst]; exact a3⟩
theorem lead_of_go (hn : (l.map (·.f0)).Nodup) {i f : Nat} (hi : i < l.length) (hs : eqL (at_ l i).f1 (at_ l i).f0 = false) (h : goB l i f i true = true) : lead (filtL l) (filtL (l.take i)) (at_ l i) := by
  obtain ⟨-, m, h1, h2⟩ := goB_true hn i f i true hi hs h
  refine ⟨⟨m, h1⟩, fun y hy q e => ?_⟩
  obtain ⟨hy1, hy2⟩ := filtL_mem.1 hy
  obtain ⟨j', hj'⟩ := List.getElem?_of_mem hy1
  have hjl := (List.getElem?_eq_some_iff.1 hj').1
  rw [List.length_take] at hjl
  rw [List.getElem?_take, if_pos (by omega)] at hj'
  have ey : at_ l j' = y := by unfold at_; rw [List.getD_eq_getElem?_getD, hj']; rfl
  rw [← Nat.div_add_mod q (m + 1), itr_add, itr_per h1, Option.bind_some, ← ey] at e
  have hlt := Nat.mod_lt q (Nat.succ_pos m)
  cases hq : q % (m + 1) with
  | zero =>
    rw [hq] at e
    have e : (at_ l i).f0 = (at_ l j').f0 := by injection e
    have := at_inj hn hi (by omega) e
    omega
  | succ q' =>
    rw [hq] at e hlt
    obtain ⟨j, a1, a2, a3⟩ := h2 q' (Nat.le_of_lt (Nat.lt_of_succ_lt_succ hlt))
    rw [a3] at e
    have e : (at_ l j).f0 = (at_ l j').f0 := by injection e
    have := at_inj hn a2 (by omega) e
    omega
theorem go_of_lead (hn : (l.map (·.f0)).Nodup) {i : Nat} (hi : i < l.length) (hs : eqL (at_ l i).f1 (at_ l i).f0 = false) (h : lead (filtL l) (filtL (l.take i)) (at_ l i)) : goB l i (l.length + 1) i true = true := by
  obtain ⟨⟨m0, hm0⟩, hlead⟩ := h
  -- the first return
  have hmin : ∃ m, itr (filtL l) (m + 1) (at_ l i).f0 = some (at_ l i).f0 ∧ ∀ q, q < m → itr (filtL l) (q + 1) (at_ l i).f0 ≠ some (at_ l i).f0 := by
    induction m0 using Nat.strongRecOn with
    | _ m0 ih =>
      by_cases hex : ∃ q, q < m0 ∧ itr (filtL l) (q + 1) (at_ l i).f0 = some (at_ l i).f0
      · obtain ⟨q, h1, h2⟩ := hex
        exact ih q h1 h2
      · exact ⟨m0, hm0, fun q hq e => hex ⟨q, hq, e⟩⟩
  obtain ⟨m, hm, hno⟩ := hmin
  have hdef : ∀ q, q ≤ m → ∃ j, j < l.length ∧ eqL (at_ l j).f1 (at_ l j).f0 = false ∧ itr (filtL l) q (at_ l i).f0 = some (at_ l j).f0 := by
    intro q hq
    cases q with
    | zero => exact ⟨i, hi, hs, rfl⟩
    | succ q =>
      have e : itr (filtL l) (q + 1 + (m - q)) (at_ l i).f0 = some (at_ l i).f0 := by rw [show q + 1 + (m - q) = m + 1 by omega]; exact hm
      rw [itr_add] at e
      cases hp : itr (filtL l) (q + 1) (at_ l i).f0 with
      | none => rw [hp] at e; cases e
      | some p =>
        rw [hp, Option.bind_some] at e
        obtain ⟨d, hd⟩ : ∃ d, m - q = d + 1 := ⟨m - q - 1, by omega⟩
        rw [hd, itr_succ] at e
        cases hst : stp (filtL l) p with
        | none => rw [hst] at e; cases e
        | some p2 =>
          obtain ⟨x, hx, e1, _⟩ := stp_mem hst
          obtain ⟨hx1, hx2⟩ := filtL_mem.1 hx
          obtain ⟨j, hj⟩ := List.getElem?_of_mem hx1
          have hjl := (List.getElem?_eq_some_iff.1 hj).1
          have ex : at_ l j = x := by unfold at_; rw [List.getD_eq_getElem?_getD, hj]; rfl
          exact ⟨j, hjl, by rw [ex]; exact hx2, by rw [ex, e1]⟩
  have hml : m + 1 ≤ l.length := by
    have hP : ((List.range (m + 1)).map (fun q => (itr (filtL l) q (at_ l i).f0).getD z24)).Nodup := by
      refine List.pairwise_iff_getElem.2 fun a b ha hb hab e => ?_
      simp only [List.getElem_map, List.getElem_range] at e
      have hb' : b < m + 1 := by simpa using hb
      obtain ⟨x, _, _, e1⟩ := hdef a (by omega)
      obtain ⟨y, _, _, e2⟩ := hdef b (by omega)
      rw [e1, e2] at e
      have e : (at_ l x).f0 = (at_ l y).f0 := e
      have h3 : itr (filtL l) (a + (m + 1 - b)) (at_ l i).f0 = some (at_ l i).f0 := by
        rw [itr_add, e1, e, ← e2, ← itr_add, show b + (m + 1 - b) = m + 1 by omega]
        exact hm
      obtain ⟨d, hd⟩ : ∃ d, a + (m + 1 - b) = d + 1 := ⟨a + (m + 1 - b) - 1, by omega⟩
      rw [hd] at h3
      exact hno d (by omega) h3
    have := nodup_len _ (l.map (·.f0)) hP (fun z hz => by
      simp only [List.mem_map, List.mem_range] at hz
      obtain ⟨q, hq, rfl⟩ := hz
      obtain ⟨x, hx, _, e⟩ := hdef q (by omega)
      rw [e]
      exact List.mem_map.2 ⟨_, at_mem hx, rfl⟩)
    simp only [List.length_map, List.length_range] at this
    omega
  have key : ∀ (d q k f : Nat), q + d = m → k < l.length → eqL (at_ l k).f1 (at_ l k).f0 = false → itr (filtL l) q (at_ l i).f0 = some (at_ l k).f0 → d + 1 ≤ f → goB l i f k true = true := by
    intro d
    induction d with
    | zero =>
      intro q k f hq hk hks e hf
      obtain ⟨f, rfl⟩ : ∃ g, f = g + 1 := ⟨f - 1, by omega⟩
      obtain rfl : q = m := by omega
      have hst := stp_some (filtL_nodup hn) (filtL_mem.2 ⟨at_mem hk, hks⟩)
      have h1 : (at_ l k).f1 = (at_ l i).f0 := by
        have := hm
        rw [itr, e, Option.bind_some, hst] at this
        injection this
      cases hnx : nxO l k with
      | none =>
        have := nxO_none hnx i hi
        unfold hitB at this
        rw [h1, eqL_self, hs] at this
        cases this
      | some j =>
        obtain ⟨a1, a2, a3⟩ := nxO_some hnx
        obtain rfl : j = i := at_inj hn a1 hi (a2.trans h1)
        rw [goB, hnx]
        simp
    | succ d ih =>
      intro q k f hq hk hks e hf
      obtain ⟨f, rfl⟩ : ∃ g, f = g + 1 := ⟨f - 1, by omega⟩
      have hst := stp_some (filtL_nodup hn) (filtL_mem.2 ⟨at_mem hk, hks⟩)
      have e1 : itr (filtL l) (q + 1) (at_ l i).f0 = some (at_ l k).f1 := by rw [itr, e, Option.bind_some, hst]
      obtain ⟨j2, b1, b2, b3⟩ := hdef (q + 1) (by omega)
      rw [e1] at b3
      have b3 : (at_ l k).f1 = (at_ l j2).f0 := by injection b3
      cases hnx : nxO l k with
      | none =>
        have := nxO_none hnx j2 b1
        unfold hitB at this
        rw [b3, eqL_self, b2] at this
        cases this
      | some j =>
        obtain ⟨a1, a2, a3⟩ := nxO_some hnx
        have hji : j ≠ i := by
          intro h
          subst h
          exact hno q (by omega) (by rw [e1, a2])
        have hle : i ≤ j := by
          apply Classical.byContradiction
          intro hlt
          have hy : at_ l j ∈ filtL (l.take i) := by
            refine filtL_mem.2 ⟨?_, a3⟩
            refine List.mem_of_getElem? (i := j) ?_
            rw [List.getElem?_take, if_pos (by omega), List.getElem?_eq_getElem a1]
            unfold at_
            rw [List.getD_eq_getElem?_getD, List.getElem?_eq_getElem a1]
            rfl
          exact hlead _ hy (q + 1) (by rw [e1, a2])
        rw [goB, hnx]
        simp only [if_neg hji, decide_eq_true hle, Bool.and_self]
        exact ih (q + 1) j f (by omega) a1 a3 (by rw [e1, a2]) (by omega)
  exact key m 0 i (l.length + 1) (by omega) hi hs rfl (by omega)
open Classical in
theorem circ0_ev (hn : (l.map (·.f0)).Nodup) (hl : l.length ≤ 1000) : ∀ (d i c : Nat), i + d = l.length → c + d ≤ 2000 → Ev (fun q => quernlaw13_circles.l0 q l (c : Int) (i : Int)) ((c + cntA (filtL l) (filtL (l.take i)) (filtL (l.drop i)) : Nat) : Int)
  | 0, i, c, hi, hc => by
    rw [List.drop_of_length_le (by omega)]
    exact Ev.step (fun k => by rw [quernlaw13_circles.l0, if_neg (by omega)]; simp [filtL, cntA]) (Ev.now _)
  | d + 1, i, c, hi, hc => by
    have hlt : i < l.length := by omega
    have ih := fun c' hc' => circ0_ev hn hl d (i + 1) c' (by omega) hc'
    rw [drop_at l i hlt]
    have ets : filtL (l.take (i + 1)) = if eqL (at_ l i).f1 (at_ l i).f0 = true then filtL (l.take i) else filtL (l.take i) ++ [at_ l i] := by
      rw [take_snoc hlt rfl, filtL_snoc]
    have e0 : (((l.getD i z36).f1.f0 == (l.getD i z36).f0.f0) && ((l.getD i z36).f1.f1 == (l.getD i z36).f0.f1)) = eqL (at_ l i).f1 (at_ l i).f0 := rfl
    cases he : eqL (at_ l i).f1 (at_ l i).f0 with
    | true =>
      have e1 : filtL (l.getD i z36 :: l.drop (i + 1)) = filtL (l.drop (i + 1)) := by
        unfold filtL
        rw [List.filter_cons_of_neg (by rw [show eqL (l.getD i z36).f1 (l.getD i z36).f0 = true from he]; decide)]
      rw [e1]
      rw [he, if_pos rfl] at ets
      rw [← ets]
      refine Ev.step (fun k => ?_) (ih c (by omega))
      rw [quernlaw13_circles.l0, if_pos (by omega), if_pos (by omega), rd36, e0, he, if_pos rfl, wrap_nat i (by omega)]
    | false =>
      have e1 : filtL (l.getD i z36 :: l.drop (i + 1)) = at_ l i :: filtL (l.drop (i + 1)) := by
        unfold filtL
        rw [List.filter_cons_of_pos (by rw [show eqL (l.getD i z36).f1 (l.getD i z36).f0 = false from he]; decide)]
      rw [e1, cntA]
      rw [he, if_neg (by decide)] at ets
      rw [← ets]
      refine Ev.step (fun k => ?_) (circ1_ev hn hl i hlt c (by omega) _ (l.length + 1) i 0 true (by omega) hlt ?_)
      · rw [quernlaw13_circles.l0, if_pos (by omega), if_pos (by omega), rd36, e0, he, if_neg (by decide)]
        rfl
      · have hif : (if goB l i (l.length + 1) i true = true then 1 else 0) = (if lead (filtL l) (filtL (l.take i)) (at_ l i) then 1 else 0) := by
          by_cases hg : goB l i (l.length + 1) i true = true
          · rw [if_pos hg, if_pos (lead_of_go hn hlt he hg)]
          · rw [if_neg hg, if_neg (fun h => hg (go_of_lead hn hlt he h))]
        rw [hif, ← Nat.add_assoc]
        exact ih _ (by split <;> omega)
theorem circles_ev (hn : (l.map (·.f0)).Nodup) (hl : l.length ≤ 1000) : Ev (fun q => quernlaw13_circles.f q l) ((cnt (filtL l) : Nat) : Int) := by
  have := circ0_ev hn hl l.length 0 0 (by omega) (by omega)
  rw [List.take_zero, List.drop_zero, Nat.zero_add] at this
  exact this
end
theorem filtL_drop (l : List Mv) (i : Nat) (h : i < l.length) : (filtL (l.drop i)).length = (if eqL (at_ l i).f1 (at_ l i).f0 = true then 0 else 1) + (filtL (l.drop (i + 1))).length := by
  rw [drop_at l i h]
  unfold filtL
  by_cases he : eqL (at_ l i).f1 (at_ l i).f0 = true
  · rw [List.filter_cons_of_neg (by rw [show eqL (l.getD i z36).f1 (l.getD i z36).f0 = true from he]; decide), if_pos he]
    omega
  · rw [List.filter_cons_of_pos (by rw [show eqL (l.getD i z36).f1 (l.getD i z36).f0 = false by simpa using he]; decide), if_neg he, List.length_cons]
    omega
theorem count0_ev (l o : List Mv) (hl : l.length ≤ 1000) (C : Nat) (hC : C ≤ 5000) (ho : o.length = C + (filtL l).length) : ∀ (d i c : Nat), i + d = l.length → c + (filtL (l.drop i)).length = C + (filtL l).length → c ≤ 10000 → Ev (fun k => quernlaw13_MovesCount.l0 k l o 0 (c : Int) (i : Int)) true
  | 0, i, c, hi, hc, hb => by
    rw [List.drop_of_length_le (by omega)] at hc
    have hc : c = C + (filtL l).length := hc
    refine Ev.step (fun k => ?_) (Ev.now true)
    rw [quernlaw13_MovesCount.l0, if_neg (by omega), if_pos rfl, ho, hc]
    simp
  | d + 1, i, c, hi, hc, hb => by
    have hlt : i < l.length := by omega
    rw [filtL_drop l i hlt] at hc
    have hfl : (filtL l).length ≤ l.length := List.filter_sublist.length_le
    by_cases he : eqL (at_ l i).f1 (at_ l i).f0 = true
    · rw [if_pos he] at hc
      refine Ev.step (fun k => ?_) (count0_ev l o hl C hC ho d (i + 1) c (by omega) (by omega) hb)
      rw [quernlaw13_MovesCount.l0, if_pos (by omega), if_pos (by omega), rd36, stay_text, if_neg (by rw [show eqL (l.getD i z36).f1 (l.getD i z36).f0 = true from he]; decide), wrap_nat i (by omega)]
    · rw [if_neg he] at hc
      refine Ev.step (fun k => ?_) (count0_ev l o hl C hC ho d (i + 1) (c + 1) (by omega) (by omega) (by omega))
      rw [quernlaw13_MovesCount.l0, if_pos (by omega), if_pos (by omega), rd36, stay_text, if_pos (by rw [show eqL (l.getD i z36).f1 (l.getD i z36).f0 = false by simpa using he]; decide), wrap_nat i (by omega), wrap_nat c (by omega)]
theorem movesCount_ev (l : List Mv) (t : S24) : Ev (fun k => quernlaw13_MovesCount.f k l t.f0 t.f1) true := by
  obtain ⟨K1, h1⟩ := alive_ev
  by_cases hl : l.length ≤ 60
  · obtain ⟨K3, h5⟩ := right_ev l t (by omega)
    by_cases hz : refuseK l t = 0
    · have hr := (rightB_iff l t).2 hz
      obtain ⟨o, ⟨K2, h2⟩, -, h4⟩ := rorder_ev l t (by omega)
      obtain ⟨hE, hlen⟩ := h4 hz
      obtain ⟨hp, hall, hd⟩ := good_of hz
      have hn := nodup_of hd
      have hcount := ends_len hE (filtL_nodup hn) (fun m hm => (bad_nt hall m (filtL_mem.1 hm).1).1)
      obtain ⟨K4, h6⟩ := circles_ev hn (by omega : l.length ≤ 1000)
      obtain ⟨K5, h7⟩ := count0_ev l o (by omega) (cnt (filtL l)) (by omega) (by omega) l.length 0 (cnt (filtL l)) (by omega) (by rw [List.drop_zero]) (by omega)
      refine ⟨K1 + K2 + K3 + K4 + K5 + 1, fun k hk => ?_⟩
      obtain ⟨k, rfl⟩ : ∃ m, k = m + 1 := ⟨k - 1, by omega⟩
      have e1 := h1 (k + 1) (by omega)
      have e2 := h2 k (by omega)
      have e3 := h5 (k + 1) (by omega)
      have e4 := h6 k (by omega)
      have e5 := h7 k (by omega)
      simp only at e1 e2 e3 e4 e5 ⊢
      rw [hz] at e2
      rw [quernlaw13_MovesCount.f, e1, Option.bind_some, if_pos rfl, if_neg (by omega), e3, Option.bind_some, hr, quernlaw13_MovesCount.j0, if_neg (by decide), lent_f l (by omega), Option.bind_some, if_pos (by omega), if_pos (by simp; omega), Int.toNat_natCast, List.take_left, order_f (by omega), e2, Option.bind_some, e4, Option.bind_some]
      exact e5
    · have hr : rightB l t = false := by
        cases hb : rightB l t
        · rfl
        · exact absurd ((rightB_iff l t).1 hb) hz
      refine ⟨K1 + K3 + 1, fun k hk => ?_⟩
      obtain ⟨k, rfl⟩ : ∃ m, k = m + 1 := ⟨k - 1, by omega⟩
      have e1 := h1 (k + 1) (by omega)
      have e3 := h5 (k + 1) (by omega)
      simp only at e1 e3 ⊢
      rw [quernlaw13_MovesCount.f, e1, Option.bind_some, if_pos rfl, if_neg (by omega), e3, Option.bind_some, hr, quernlaw13_MovesCount.j0, if_pos (by decide)]
  · refine ⟨K1 + 1, fun k hk => ?_⟩
    obtain ⟨k, rfl⟩ : ∃ m, k = m + 1 := ⟨k - 1, by omega⟩
    have e1 := h1 (k + 1) (by omega)
    simp only at e1 ⊢
    rw [quernlaw13_MovesCount.f, e1, Option.bind_some, if_pos rfl, if_pos (by omega), quernlaw13_MovesCount.j0, if_pos rfl]
theorem movesCount_any (A : Option Addr) (n c : Nat) (l : List Mv) (t0 t1 : Int) (w : World) (hC : Kd.C k36 w A n l) (hnc : n ≤ c) :
    Calls Try.prog 5 #[.slice A n c, .agg #[.int .i64 t0, .int .i64 t1]] w fun e w' => e = .returned (.bool true) ∧ Below w.heap.size w w' := by
  obtain rfl := hC.1
  obtain ⟨k, hk⟩ := (movesCount_ev l ⟨t0, t1⟩).rounds
  exact quernlaw13_MovesCount.calls k A c l t0 t1 true w hC hnc hk
end Go.Proofs.Ytameoapnhmoleaa
