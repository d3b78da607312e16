/- The document's refusal, printed: what it answers (chapter 13). The document's order, printed: what it answers (chapter 13). moves.Order does what the document's order does: its contract in the printed form (chapter 13). -/
import Derived.Test.YtameoapnhmoleaaX2
import Derived.Test.YtameoapnhmoleaaPQ7
import Derived.Test.YtameoapnhmoleaaPQ8
set_option linter.unusedVariables false
set_option linter.unusedSimpArgs false
namespace Go.Proofs.Ytameoapnhmoleaa
open Go.RowKit Go.Proofs.YtameoapnhmoleaaW.PrintWords Go.Proofs.YtameoapnhmoleaaW.PrintLast Go.Proofs.YtameoapnhmoleaaW.PrintMore
open PP

theorem same_f (a b c d : Int) : quernref13_Same.f a b c d = some (eqL ⟨a, b⟩ ⟨c, d⟩) := by
  unfold quernref13_Same.f eqL
  by_cases h : a = c <;> simp [h]
theorem place_f (a b : Int) : quernref13_Place.f a b = some (placeB ⟨a, b⟩) := by
  unfold quernref13_Place.f placeB
  by_cases h1 : a = 1
  · simp [h1]
  · by_cases h2 : a = 2 <;> simp [h1, h2]
theorem wrap_nat (i : Nat) (h : i < 4611686018427387904) : wrap64 ((i : Int) + 1) = ((i + 1 : Nat) : Int) := by
  unfold wrap64
  omega
theorem rd36 (l : List Mv) (i : Nat) : rd_T36 l (i : Int) = l.getD i z36 := by unfold rd_T36; rw [Int.toNat_natCast]
theorem drop_at (l : List Mv) (i : Nat) (h : i < l.length) : l.drop i = l.getD i z36 :: l.drop (i + 1) := by
  rw [List.drop_eq_getElem_cons h, List.getD_eq_getElem?_getD, List.getElem?_eq_getElem h]
  rfl
theorem readB_cons (m : Mv) (l : List Mv) (p : S24) : readB (m :: l) p = (eqL m.f1 p || readB l p) := rfl
theorem read_ev (l : List Mv) (p : S24) (hl : l.length ≤ 1000000) : ∀ (d i : Nat), i + d = l.length → Ev (fun k => quernref13_read.l0 k l (i : Int) p.f0 p.f1) (readB (l.drop i) p)
  | 0, i, h => by
    rw [List.drop_of_length_le (by omega)]
    exact Ev.step (fun k => by rw [quernref13_read.l0, if_neg (by omega)]) (Ev.now false)
  | d + 1, i, h => by
    rw [drop_at l i (by omega), readB_cons]
    by_cases he : eqL (l.getD i z36).f1 p = true
    · rw [he]
      exact Ev.step (fun k => by rw [quernref13_read.l0, if_pos (by omega), if_pos (by omega), rd36, same_f, Option.bind_some, if_pos he]) (Ev.now true)
    · have he2 : eqL (l.getD i z36).f1 p = false := by simpa using he
      rw [he2, Bool.false_or]
      refine Ev.step (fun k => ?_) (read_ev l p hl d (i + 1) (by omega))
      rw [quernref13_read.l0, if_pos (by omega), if_pos (by omega), rd36, same_f, Option.bind_some, if_neg he, wrap_nat i (by omega)]
theorem readf_ev (l : List Mv) (p : S24) (hl : l.length ≤ 1000000) : Ev (fun k => quernref13_read.f k l p.f0 p.f1) (readB l p) := read_ev l p hl l.length 0 (by omega)

/-! Refuse -/
theorem pairs_bad {l : List Mv} {i j : Nat} (hj : j < i) (hi : i < l.length) (h : eqL (l.getD i z36).f0 (l.getD j z36).f0 = true) : distinctB l = false := by
  cases hd : distinctB l
  · rfl
  · have hn := nodup_of hd
    rw [List.getD_eq_getElem?_getD, List.getElem?_eq_getElem hi, List.getD_eq_getElem?_getD, List.getElem?_eq_getElem (by omega)] at h
    have he := (eqL_iff _ _).1 h
    have h2 := List.pairwise_iff_getElem.1 hn j i (by simp; omega) (by simpa using hi) hj
    rw [List.getElem_map, List.getElem_map] at h2
    exact absurd he.symm h2
theorem pairs_ok {l : List Mv} {i : Nat} (hi : i < l.length) (hd : distinctB (l.take i) = true) (h : ∀ j, j < i → eqL (l.getD i z36).f0 (l.getD j z36).f0 = false) : distinctB (l.take (i + 1)) = true := by
  rw [take_snoc hi rfl, distinct_snoc, hd, Bool.true_and, List.all_eq_true]
  intro x hx
  obtain ⟨j, hj⟩ := List.getElem?_of_mem hx
  have hlt := (List.getElem?_eq_some_iff.1 hj).1
  rw [List.length_take] at hlt
  have := h j (by omega)
  rw [List.getElem?_take, if_pos (by omega)] at hj
  rw [show l.getD j z36 = x by rw [List.getD_eq_getElem?_getD, hj]; rfl] at this
  rw [this]
  rfl
theorem l2_ev (l : List Mv) (hl : l.length ≤ 1000000) (i : Nat) (hi : i < l.length) (r : Int) (hbad : distinctB l = false → r = 130)
    (hnext : (∀ j, j < i → eqL (l.getD i z36).f0 (l.getD j z36).f0 = false) → Ev (fun k => quernref13_Refuse.l1 k l ((i + 1 : Nat) : Int)) r) :
    ∀ (d j : Nat), j + d = i → (∀ k, k < j → eqL (l.getD i z36).f0 (l.getD k z36).f0 = false) → Ev (fun k => quernref13_Refuse.l2 k l (i : Int) (j : Int)) r
  | 0, j, h, hok => by
    obtain rfl : j = i := by omega
    refine Ev.step (fun k => ?_) (hnext hok)
    rw [quernref13_Refuse.l2, if_neg (by omega), wrap_nat j (by omega)]
  | d + 1, j, h, hok => by
    by_cases he : eqL (l.getD i z36).f0 (l.getD j z36).f0 = true
    · rw [hbad (pairs_bad (by omega) hi he)]
      exact Ev.step (fun k => by rw [quernref13_Refuse.l2, if_pos (by omega), if_pos (by omega), if_pos (by omega), if_pos (by omega), if_pos (by omega), rd36, rd36, same_f, Option.bind_some, if_pos he]) (Ev.now 130)
    · have he2 : eqL (l.getD i z36).f0 (l.getD j z36).f0 = false := by simpa using he
      refine Ev.step (fun k => ?_) (l2_ev l hl i hi r hbad hnext d (j + 1) (by omega) (fun k hk => by
        by_cases hkj : k = j
        · rw [hkj]; exact he2
        · exact hok k (by omega)))
      rw [quernref13_Refuse.l2, if_pos (by omega), if_pos (by omega), if_pos (by omega), if_pos (by omega), if_pos (by omega), rd36, rd36, same_f, Option.bind_some, if_neg he, wrap_nat j (by omega)]
theorem l1_ev (l : List Mv) (hl : l.length ≤ 1000000) : ∀ (d i : Nat), i + d = l.length → distinctB (l.take i) = true → Ev (fun k => quernref13_Refuse.l1 k l (i : Int)) (if distinctB l = true then 0 else 130)
  | 0, i, h, hd => by
    rw [List.take_of_length_le (by omega)] at hd
    rw [if_pos hd]
    exact Ev.step (fun k => by rw [quernref13_Refuse.l1, if_neg (by omega)]) (Ev.now 0)
  | d + 1, i, h, hd => by
    refine Ev.step (fun k => ?_) (l2_ev l hl i (by omega) _ (fun hb => by rw [hb]; rfl) (fun hok => l1_ev l hl d (i + 1) (by omega) (pairs_ok (by omega) hd hok)) i 0 (by omega) (fun k hk => absurd hk (Nat.not_lt_zero k)))
    rw [quernref13_Refuse.l1, if_pos (by omega)]
    rfl
theorem l0_ev (l : List Mv) (t : S24) (hl : l.length ≤ 1000000) : ∀ (d i : Nat), i + d = l.length → (∀ k, k < i → badM t (l.getD k z36) = false) → Ev (fun k => quernref13_Refuse.l0 k l (i : Int) t.f0 t.f1) (refuseK l t)
  | 0, i, h, hok => by
    have hall : l.any (badM t) = false := by
      rw [Bool.eq_false_iff]
      intro hb
      rw [List.any_eq_true] at hb
      obtain ⟨m, hm, hb⟩ := hb
      obtain ⟨k, hk⟩ := List.getElem?_of_mem hm
      have hkl := (List.getElem?_eq_some_iff.1 hk).1
      have := hok k (by omega)
      rw [List.getD_eq_getElem?_getD, hk] at this
      rw [show (some m).getD z36 = m from rfl, hb] at this
      cases this
    unfold refuseK
    cases hp : placeB t
    · rw [if_pos (.inl rfl)]
      exact Ev.step (fun k => by rw [quernref13_Refuse.l0, if_neg (by omega), place_f, Option.bind_some, if_neg (by rw [show (⟨t.f0, t.f1⟩ : S24) = t from rfl, hp]; decide)]) (Ev.now 131)
    · rw [if_neg (by rw [hall]; simp)]
      refine Ev.step (fun k => ?_) (l1_ev l hl l.length 0 (by omega) rfl)
      rw [quernref13_Refuse.l0, if_neg (by omega), place_f, Option.bind_some, if_pos hp]
      rfl
  | d + 1, i, h, hok => by
    have hi : i < l.length := by omega
    cases hb : badM t (l.getD i z36)
    · refine Ev.step (fun k => ?_) (l0_ev l t hl d (i + 1) (by omega) (fun k hk => by
        by_cases hki : k = i
        · rw [hki]; exact hb
        · exact hok k (by omega)))
      unfold badM at hb
      simp only [Bool.or_eq_false_iff] at hb
      obtain ⟨⟨⟨h1, h2⟩, h3⟩, h4⟩ := hb
      have h1 : placeB (l.getD i z36).f0 = true := by simpa using h1
      have h3' : ¬ eqL (l.getD i z36).f0 t = true := by rw [h3]; decide
      have h4' : ¬ eqL (l.getD i z36).f1 t = true := by rw [h4]; decide
      rw [quernref13_Refuse.l0, if_pos (by omega), if_pos (by omega), rd36, place_f, Option.bind_some, if_pos h1, place_f, Option.bind_some]
      by_cases h5 : placeB (l.getD i z36).f1 = true
      · rw [if_pos h5, same_f, Option.bind_some, if_neg h3', same_f, Option.bind_some, if_neg h4', wrap_nat i (by omega)]
      · have h6 : (l.getD i z36).f1.f0 = 3 := by
          have h5' : placeB (l.getD i z36).f1 = false := by simpa using h5
          rw [h5'] at h2
          simpa using h2
        rw [if_neg h5, if_pos h6, same_f, Option.bind_some, if_neg h3', same_f, Option.bind_some, if_neg h4', wrap_nat i (by omega)]
    · rw [bad_end rfl hi rfl hb]
      refine Ev.step (fun k => ?_) (Ev.now 131)
      rw [quernref13_Refuse.l0, if_pos (by omega), if_pos (by omega), rd36, place_f, Option.bind_some]
      by_cases h1 : placeB (l.getD i z36).f0 = true
      · rw [if_pos h1, place_f, Option.bind_some]
        by_cases h5 : placeB (l.getD i z36).f1 = true
        · rw [if_pos h5, same_f, Option.bind_some]
          by_cases h3 : eqL (l.getD i z36).f0 t = true
          · rw [if_pos h3]
          · rw [if_neg h3, same_f, Option.bind_some, if_pos]
            have h3' : eqL (l.getD i z36).f0 t = false := by simpa using h3
            unfold badM at hb
            rw [h1, h5, h3'] at hb
            simpa using hb
        · rw [if_neg h5]
          by_cases h6 : (l.getD i z36).f1.f0 = 3
          · rw [if_pos h6, same_f, Option.bind_some]
            by_cases h3 : eqL (l.getD i z36).f0 t = true
            · rw [if_pos h3]
            · rw [if_neg h3, same_f, Option.bind_some, if_pos]
              have h3' : eqL (l.getD i z36).f0 t = false := by simpa using h3
              have h5' : placeB (l.getD i z36).f1 = false := by simpa using h5
              unfold badM at hb
              rw [h1, h5', h3', h6] at hb
              simpa using hb
          · rw [if_neg h6]
      · rw [if_neg h1]
theorem refuse_ev (l : List Mv) (t : S24) (hl : l.length ≤ 1000000) : Ev (fun k => quernref13_Refuse.f k l t.f0 t.f1) (refuseK l t) := l0_ev l t hl l.length 0 (by omega) (fun k hk => absurd hk (Nat.not_lt_zero k))
end Go.Proofs.Ytameoapnhmoleaa
set_option linter.unusedVariables false
set_option linter.unusedSimpArgs false
namespace Go.Proofs.Ytameoapnhmoleaa
open Go.RowKit Go.Proofs.YtameoapnhmoleaaW.PrintWords Go.Proofs.YtameoapnhmoleaaW.PrintLast Go.Proofs.YtameoapnhmoleaaW.PrintMore
open PP

theorem ol2_ev (left out : List Mv) (t : S24) (hl : left.length ≤ 1000000) (ho : out.length ≤ 1000000) (i0 : Nat) (hi0 : i0 ≤ left.length) (hpos : 0 < left.length) (hbef : ∀ j, j < i0 → readB left (left.getD j z36).f0 = true) (hat : i0 < left.length → readB left (left.getD i0 z36).f0 = false) (r : List Mv × Int)
    (h1 : i0 = left.length → Ev (fun k => quernref13_Order.l1 k (left.set 0 ⟨(left.getD 0 z36).f0, t⟩) (out ++ [⟨t, (left.getD 0 z36).f1⟩]) t.f0 t.f1) r)
    (h2 : i0 < left.length → Ev (fun k => quernref13_Order.l1 k (left.eraseIdx i0) (out ++ [left.getD i0 z36]) t.f0 t.f1) r) :
    ∀ (d i : Nat), i + d = i0 → Ev (fun k => quernref13_Order.l2 k left out (i : Int) t.f0 t.f1) r
  | 0, i, h => by
    obtain rfl : i = i0 := by omega
    by_cases hn : i = left.length
    · refine Ev.step (fun k => ?_) (h1 hn)
      rw [quernref13_Order.l2, if_neg (by omega), if_pos (by omega), if_pos (by omega), if_pos (by omega)]
      rfl
    · have hlt : i < left.length := by omega
      obtain ⟨K1, k1⟩ := readf_ev left (left.getD i z36).f0 hl
      obtain ⟨K2, k2⟩ := h2 hlt
      refine ⟨K1 + K2 + 1, fun k hk => ?_⟩
      obtain ⟨k, rfl⟩ : ∃ m, k = m + 1 := ⟨k - 1, by omega⟩
      have e1 := k1 k (by omega)
      have e2 := k2 k (by omega)
      simp only at e1 e2
      show quernref13_Order.l2 (k + 1) left out (i : Int) t.f0 t.f1 = some r
      rw [quernref13_Order.l2, if_pos (by omega), if_pos (by omega), rd36, e1, Option.bind_some, hat hlt, if_neg (by decide), if_neg (by omega), if_pos (by omega), if_pos (by omega), wrap_nat i (by omega), if_pos (by omega), if_pos (by omega), Int.toNat_natCast]
      exact e2
  | d + 1, i, h => by
    obtain ⟨K1, k1⟩ := readf_ev left (left.getD i z36).f0 hl
    obtain ⟨K2, k2⟩ := ol2_ev left out t hl ho i0 hi0 hpos hbef hat r h1 h2 d (i + 1) (by omega)
    refine ⟨K1 + K2 + 1, fun k hk => ?_⟩
    obtain ⟨k, rfl⟩ : ∃ m, k = m + 1 := ⟨k - 1, by omega⟩
    have e1 := k1 k (by omega)
    have e2 := k2 k (by omega)
    simp only at e1 e2
    show quernref13_Order.l2 (k + 1) left out (i : Int) t.f0 t.f1 = some r
    rw [quernref13_Order.l2, if_pos (by omega), if_pos (by omega), rd36, e1, Option.bind_some, hbef i (by omega), if_pos rfl, wrap_nat i (by omega)]
    exact e2
theorem first_no {l : List Mv} (R : Mv → Bool) : ∃ i, i ≤ l.length ∧ (∀ j, j < i → R (l.getD j z36) = true) ∧ (i < l.length → R (l.getD i z36) = false) := by
  induction l with
  | nil => exact ⟨0, Nat.le_refl _, fun j hj => absurd hj (Nat.not_lt_zero j), fun h => absurd h (Nat.lt_irrefl 0)⟩
  | cons m l ih =>
    cases hm : R m
    · exact ⟨0, Nat.zero_le _, fun j hj => absurd hj (Nat.not_lt_zero j), fun _ => hm⟩
    · obtain ⟨i, h1, h2, h3⟩ := ih
      refine ⟨i + 1, by simp; omega, fun j hj => ?_, fun h => ?_⟩
      · cases j with
        | zero => exact hm
        | succ j => exact h2 j (by omega)
      · exact h3 (by simpa using h)
theorem ol1_ev (T : S24) (N : Nat) (L : List Mv) (hN : N ≤ 1000) : ∀ (g : Nat) (left out : List Mv), RS T N L left out g → ∃ o, Ends T L o ∧ o.length ≤ 2 * N ∧ Ev (fun k => quernref13_Order.l1 k left out T.f0 T.f1) (o, 0) := by
  intro g
  induction g with
  | zero =>
    intro left out h
    cases left with
    | nil => exact ⟨out, h.end_, h.outLen, Ev.step (fun k => by rw [quernref13_Order.l1, if_neg (by simp)]) (Ev.now _)⟩
    | cons m b =>
      have := h.left_
      have := meas_pos T (show m :: b ≠ [] by simp)
      omega
  | succ g ih =>
    intro left out h
    cases left with
    | nil => exact ⟨out, h.end_, h.outLen, Ev.step (fun k => by rw [quernref13_Order.l1, if_neg (by simp)]) (Ev.now _)⟩
    | cons m b =>
      have hll := h.len
      have hol := h.outLen
      obtain ⟨i, h1, h2, h3⟩ := first_no (l := m :: b) (fun x => readB (m :: b) x.f0)
      by_cases hi : i = (m :: b).length
      · have hall : ∀ x ∈ m :: b, readB (m :: b) x.f0 = true := by
          intro x hx
          obtain ⟨j, hj⟩ := List.getElem?_of_mem hx
          have hjl := (List.getElem?_eq_some_iff.1 hj).1
          have := h2 j (by omega)
          rwa [List.getD_eq_getElem?_getD, hj] at this
        obtain ⟨hg, hr⟩ := h.brk hall
        obtain ⟨o, o1, o2, o3⟩ := ih _ _ hr
        refine ⟨o, o1, o2, Ev.step (fun k => ?_) (ol2_ev (m :: b) out T (by omega) (by omega) i h1 (by simp) h2 h3 (o, 0) (fun _ => o3) (fun hlt => absurd hlt (by omega)) i 0 (by omega))⟩
        rw [quernref13_Order.l1, if_pos (by simp)]
        rfl
      · have hlt : i < (m :: b).length := by omega
        obtain ⟨a, c, e, ha⟩ := mid z36 (m :: b) i hlt
        have hbe : ∀ x ∈ a, readB (m :: b) x.f0 = true := by
          intro x hx
          obtain ⟨j, hj⟩ := List.getElem?_of_mem hx
          have hjl := (List.getElem?_eq_some_iff.1 hj).1
          have := h2 j (by omega)
          have ej : (m :: b).getD j z36 = x := by rw [e, List.getD_eq_getElem?_getD, List.getElem?_append_left hjl, hj]; rfl
          rwa [ej] at this
        have hn := h3 hlt
        generalize hx : (m :: b).getD i z36 = x at e hn
        rw [e] at hbe hn h
        obtain ⟨hg, hr⟩ := h.put hbe hn
        obtain ⟨o, o1, o2, o3⟩ := ih _ _ hr
        refine ⟨o, o1, o2, Ev.step (fun k => ?_) (ol2_ev (m :: b) out T (by omega) (by omega) i h1 (by simp) h2 h3 (o, 0) (fun hh => absurd hh (by omega)) (fun _ => ?_) i 0 (by omega))⟩
        · rw [quernref13_Order.l1, if_pos (by simp)]
          rfl
        · rw [hx, e, ← ha, erase_mid]
          exact o3
theorem ol0_ev (l : List Mv) (t : S24) (hl : l.length ≤ 1000000) (r : List Mv × Int) (h : Ev (fun k => quernref13_Order.l1 k (filtL l) [] t.f0 t.f1) r) : ∀ (d i : Nat), i + d = l.length → Ev (fun k => quernref13_Order.l0 k l (filtL (l.take i)) (i : Int) t.f0 t.f1) r
  | 0, i, hi => by
    rw [List.take_of_length_le (by omega)]
    refine Ev.step (fun k => ?_) h
    rw [quernref13_Order.l0, if_neg (by omega)]
  | d + 1, i, hi => by
    have hlt : i < l.length := by omega
    have ih := ol0_ev l t hl r h d (i + 1) (by omega)
    rw [take_snoc hlt rfl, filtL_snoc] at ih
    have hfl : (filtL (l.take i)).length ≤ 1000000 := by
      have h1 : (filtL (l.take i)).length ≤ (l.take i).length := List.filter_sublist.length_le
      rw [List.length_take] at h1
      omega
    refine Ev.step (fun k => ?_) ih
    rw [quernref13_Order.l0, if_pos (by omega), if_pos (by omega), rd36, same_f, Option.bind_some, wrap_nat i (by omega)]
    by_cases he : eqL (l.getD i z36).f1 (l.getD i z36).f0 = true
    · rw [if_pos he, if_pos he]
    · rw [if_neg he, if_neg he, if_pos (by omega)]
/-- What the document's Order answers. -/
theorem rorder_ev (l : List Mv) (t : S24) (hl : l.length ≤ 1000) : ∃ o, Ev (fun k => quernref13_Order.f k l t.f0 t.f1) (o, refuseK l t) ∧ (refuseK l t ≠ 0 → o = []) ∧ (refuseK l t = 0 → Ends t (filtL l) o ∧ o.length ≤ 2 * l.length) := by
  by_cases hk : refuseK l t = 0
  · obtain ⟨hp, hall, hd⟩ := good_of hk
    have hs := RS.start (T := t) (N := l.length) (l := l) (Nat.le_refl _) (nodup_of hd) (fun m hm => (bad_nt hall m hm).1)
    obtain ⟨o, o1, o2, o3⟩ := ol1_ev t l.length (filtL l) hl _ _ _ hs
    obtain ⟨K1, k1⟩ := refuse_ev l t (by omega)
    obtain ⟨K2, k2⟩ := ol0_ev l t (by omega) _ o3 l.length 0 (by omega)
    refine ⟨o, ⟨K1 + K2, fun k hk2 => ?_⟩, fun h => absurd hk h, fun _ => ⟨o1, o2⟩⟩
    have e1 := k1 k (by omega)
    have e2 := k2 k (by omega)
    simp only at e1 e2
    show quernref13_Order.f k l t.f0 t.f1 = _
    rw [quernref13_Order.f, e1, Option.bind_some, if_pos hk, hk]
    exact e2
  · obtain ⟨K1, k1⟩ := refuse_ev l t (by omega)
    refine ⟨[], ⟨K1, fun k hk2 => ?_⟩, fun _ => rfl, fun h => absurd h hk⟩
    have e1 := k1 k (by omega)
    simp only at e1
    show quernref13_Order.f k l t.f0 t.f1 = _
    rw [quernref13_Order.f, e1, Option.bind_some, if_neg hk]
end Go.Proofs.Ytameoapnhmoleaa
set_option linter.unusedVariables false
set_option linter.unusedSimpArgs false
namespace Go.Proofs.Ytameoapnhmoleaa.PP
open Go.RowKit Go.Proofs.YtameoapnhmoleaaW.PrintWords Go.Proofs.YtameoapnhmoleaaW.PrintLast Go.Proofs.YtameoapnhmoleaaW.PrintMore
open Go.Proofs.Ytameoapnhmoleaa

/-- Of lists of up to 1000 moves: what the document's order answers. -/
def moves_Order.f (k : Nat) (l0 : List (S36)) (a1_0 : Int) (a1_1 : Int) : Option ((List (S36)) × Int) := if l0.length ≤ 1000 then quernref13_Order.f k l0 a1_0 a1_1 else none
theorem moves_Order.mono : ∀ a0 a1 a2 k, LeO (moves_Order.f k a0 a1 a2) (moves_Order.f (k + 1) a0 a1 a2) := by
  intro a0 a1 a2 k
  unfold moves_Order.f
  exact LeO.ite (quernref13_Order.mono _ _ _ _) (LeO.refl _)
theorem moves_Order.calls (k : Nat) (A0 : Option Addr) (c0 : Nat) (l0 : List (S36)) (a1_0 : Int) (a1_1 : Int) (r1 : List (S36)) (r2 : Int) (w : World) (hr0 : Kd.C k36 w A0 l0.length l0) (hc0 : l0.length ≤ c0) (h : moves_Order.f k l0 a1_0 a1_1 = some (r1, r2)) :
    Calls Try.prog 10 #[.slice A0 l0.length c0, .agg #[.int .i64 a1_0, .int .i64 a1_1]] w fun e w' => ∃ v0_ : Value, e = .returned (.tuple #[v0_, .int .i64 r2]) ∧ Kd.R k36 36 w' w.heap.size (fun _ => True) v0_ r1 ∧ Below w.heap.size w w' := by
  unfold moves_Order.f at h
  split at h
  · rename_i hl
    obtain ⟨o, ⟨K, hK⟩, h1, h2⟩ := rorder_ev l0 ⟨a1_0, a1_1⟩ hl
    have e1 := hK (k + K) (by omega)
    have e2 : quernref13_Order.f (k + K) l0 a1_0 a1_1 = some (r1, r2) := at_rounds (fun k => quernref13_Order.mono l0 a1_0 a1_1 k) (Nat.le_add_right k K) h
    simp only at e1
    rw [e2] at e1
    injection e1 with e1
    injection e1 with e1 e3
    subst e1 e3
    refine (order_any A0 l0.length c0 l0 a1_0 a1_1 w hr0 hc0 hl).mono ?_
    rintro e w' ⟨hB, h | h⟩
    · obtain ⟨hne, rfl⟩ := h
      rw [h1 hne]
      exact ⟨_, rfl, Kd.R_nil _ _ _ _ _, hB⟩
    · obtain ⟨he, v, out, rfl, hR, hE, _⟩ := h
      rw [(h2 he).1.det hE, he]
      exact ⟨_, rfl, hR, hB⟩
  · cases h
end Go.Proofs.Ytameoapnhmoleaa.PP
