/- right: what P1301 takes, plain; MovesDo's printed function (chapter 13). -/
import Derived.Test.YtameoapnhmoleaaDA
import Derived.Test.YtameoapnhmoleaaPP4
set_option linter.unusedVariables false
set_option linter.unusedSimpArgs false
namespace Go.Proofs.Ytameoapnhmoleaa
open Go.RowKit Go.Proofs.YtameoapnhmoleaaW.PrintWords Go.Proofs.YtameoapnhmoleaaW.PrintLast Go.Proofs.YtameoapnhmoleaaW.PrintMore
open PP

set_option maxHeartbeats 4000000 in
theorem right_l0 (l : List Mv) (t : S24) (i : Nat) (hi : i < l.length) (k : Nat) : quernlaw13_right.l0 (k + 1) l (i : Int) t.f0 t.f1 = quernlaw13_right.j2 k l (i : Int) (badM t (l.getD i z36)) t.f0 t.f1 (l.getD i z36).f0.f0 (l.getD i z36).f0.f1 (l.getD i z36).f1.f0 (l.getD i z36).f1.f1 := by
  rw [quernlaw13_right.l0, if_pos (by omega), if_pos (by omega), rd36]
  generalize l.getD i z36 = m
  obtain ⟨⟨a0, a1⟩, ⟨b0, b1⟩⟩ := m
  obtain ⟨t0, t1⟩ := t
  unfold badM placeB eqL
  simp only
  by_cases h1 : a0 = 1
  · rw [if_pos h1]
    by_cases h2 : a1 < 0
    · rw [if_pos h2]; congr 1; simp [h1]; omega
    · rw [if_neg h2]
      by_cases h3 : b0 < 1
      · rw [if_pos h3]; congr 1; simp [h1]; omega
      · rw [if_neg h3]
        by_cases h4 : b0 > 3
        · rw [if_pos h4]; congr 1; simp [h1]; omega
        · rw [if_neg h4]
          by_cases h5 : b0 < 3
          · rw [if_pos h5]
            by_cases h6 : b1 < 0
            · rw [if_pos h6]; congr 1; simp [h1]; omega
            · rw [if_neg h6]
              by_cases h7 : (a0 == t0 && (a1 == t1)) = true
              · rw [if_pos h7]; congr 1; simp [h7]
              · rw [if_neg h7]; congr 1
                have h7' : (a0 == t0 && (a1 == t1)) = false := by simpa using h7
                have e0 : decide (0 ≤ a1) = true := decide_eq_true (by omega)
                have e1 : decide (0 ≤ b1) = true := decide_eq_true (by omega)
                have e2 : (b0 == 1 || b0 == 2) = true := by simp; omega
                rw [h7', e0, e1, e2, h1]
                simp
          · rw [if_neg h5]
            have h8 : b0 = 3 := by omega
            by_cases h7 : (a0 == t0 && (a1 == t1)) = true
            · rw [if_pos h7]; congr 1; simp [h7]
            · rw [if_neg h7]; congr 1
              have h7' : (a0 == t0 && (a1 == t1)) = false := by simpa using h7
              have e0 : decide (0 ≤ a1) = true := decide_eq_true (by omega)
              rw [h7', e0, h8, h1]
              simp
  · rw [if_neg h1]
    by_cases h1' : a0 = 2
    · rw [if_pos h1']
      by_cases h2 : a1 < 0
      · rw [if_pos h2]; congr 1; simp [h1']; omega
      · rw [if_neg h2]
        by_cases h3 : b0 < 1
        · rw [if_pos h3]; congr 1; simp [h1']; omega
        · rw [if_neg h3]
          by_cases h4 : b0 > 3
          · rw [if_pos h4]; congr 1; simp [h1']; omega
          · rw [if_neg h4]
            by_cases h5 : b0 < 3
            · rw [if_pos h5]
              by_cases h6 : b1 < 0
              · rw [if_pos h6]; congr 1; simp [h1']; omega
              · rw [if_neg h6]
                by_cases h7 : (a0 == t0 && (a1 == t1)) = true
                · rw [if_pos h7]; congr 1; simp [h7]
                · rw [if_neg h7]; congr 1
                  have h7' : (a0 == t0 && (a1 == t1)) = false := by simpa using h7
                  have e0 : decide (0 ≤ a1) = true := decide_eq_true (by omega)
                  have e1 : decide (0 ≤ b1) = true := decide_eq_true (by omega)
                  have e2 : (b0 == 1 || b0 == 2) = true := by simp; omega
                  rw [h7', e0, e1, e2, h1']
                  simp
            · rw [if_neg h5]
              have h8 : b0 = 3 := by omega
              by_cases h7 : (a0 == t0 && (a1 == t1)) = true
              · rw [if_pos h7]; congr 1; simp [h7]
              · rw [if_neg h7]; congr 1
                have h7' : (a0 == t0 && (a1 == t1)) = false := by simpa using h7
                have e0 : decide (0 ≤ a1) = true := decide_eq_true (by omega)
                rw [h7', e0, h8, h1']
                simp
    · rw [if_neg h1']; congr 1; simp [h1, h1']
theorem right_l1 (l : List Mv) (t : S24) (hl : l.length ≤ 1000000) (i : Nat) (hi : i < l.length) (r : Bool) (hbad : distinctB l = false → r = false)
    (hnext : (∀ j, j < i → eqL (l.getD i z36).f0 (l.getD j z36).f0 = false) → Ev (fun k => quernlaw13_right.l0 k l ((i + 1 : Nat) : Int) t.f0 t.f1) r) :
    ∀ (d j : Nat), j + d = i → (∀ k, k < j → eqL (l.getD i z36).f0 (l.getD k z36).f0 = false) → Ev (fun k => quernlaw13_right.l1 k l (i : Int) (j : Int) t.f0 t.f1 (l.getD i z36).f0.f0 (l.getD i z36).f0.f1 (l.getD i z36).f1.f0 (l.getD i z36).f1.f1) r
  | 0, j, h, hok => by
    obtain rfl : j = i := by omega
    refine Ev.step (fun k => ?_) (hnext hok)
    rw [quernlaw13_right.l1, if_neg (by omega), wrap_nat j (by omega)]
  | d + 1, j, h, hok => by
    by_cases he : eqL (l.getD i z36).f0 (l.getD j z36).f0 = true
    · rw [hbad (pairs_bad (by omega) hi he)]
      rw [eqL_symm] at he
      exact Ev.step (fun k => by rw [quernlaw13_right.l1, if_pos (by omega), if_pos (by omega), if_pos (by omega), rd36, if_pos (by exact he)]) (Ev.now false)
    · have he2 : eqL (l.getD i z36).f0 (l.getD j z36).f0 = false := by simpa using he
      refine Ev.step (fun k => ?_) (right_l1 l t hl i hi r hbad hnext d (j + 1) (by omega) (fun k hk => by
        by_cases hkj : k = j
        · rw [hkj]; exact he2
        · exact hok k (by omega)))
      rw [eqL_symm] at he
      rw [quernlaw13_right.l1, if_pos (by omega), if_pos (by omega), if_pos (by omega), rd36, if_neg (by exact he), wrap_nat j (by omega)]
theorem right_loop (l : List Mv) (t : S24) (hl : l.length ≤ 1000000) : ∀ (d i : Nat), i + d = l.length → (∀ k, k < i → badM t (l.getD k z36) = false) → distinctB (l.take i) = true →
    Ev (fun k => quernlaw13_right.l0 k l (i : Int) t.f0 t.f1) (!(l.any (badM t)) && distinctB l)
  | 0, i, h, hok, hd => by
    have hall : l.any (badM t) = false := by
      rw [Bool.eq_false_iff]
      intro hb
      rw [List.any_eq_true] at hb
      obtain ⟨m, hm, hb⟩ := hb
      obtain ⟨k, hk⟩ := List.getElem?_of_mem hm
      have hkl := (List.getElem?_eq_some_iff.1 hk).1
      have := hok k (by omega)
      rw [List.getD_eq_getElem?_getD, hk] at this
      rw [show (some m).getD z36 = m from rfl, hb] at this
      cases this
    rw [List.take_of_length_le (by omega)] at hd
    rw [hall, hd]
    exact Ev.step (fun k => by rw [quernlaw13_right.l0, if_neg (by omega)]) (Ev.now true)
  | d + 1, i, h, hok, hd => by
    have hi : i < l.length := by omega
    refine Ev.step (fun k => right_l0 l t i hi k) ?_
    cases hb : badM t (l.getD i z36)
    · refine Ev.step (fun k => by rw [quernlaw13_right.j2, if_neg (by decide)]; rfl) (right_l1 l t hl i hi _ (fun h => by rw [h, Bool.and_false]) (fun hh => right_loop l t hl d (i + 1) (by omega) (fun k hk => by
        by_cases hki : k = i
        · rw [hki]; exact hb
        · exact hok k (by omega)) (pairs_ok hi hd hh)) i 0 (by omega) (fun k hk => absurd hk (Nat.not_lt_zero k)))
    · have hany : l.any (badM t) = true := List.any_eq_true.2 ⟨_, getD_mem hi, hb⟩
      rw [hany]
      exact Ev.step (fun k => by rw [quernlaw13_right.j2, if_pos rfl]) (Ev.now false)
def rightB (l : List Mv) (t : S24) : Bool := placeB t && (!(l.any (badM t)) && distinctB l)
theorem rightB_iff (l : List Mv) (t : S24) : rightB l t = true ↔ refuseK l t = 0 := by
  unfold rightB refuseK
  cases placeB t <;> cases l.any (badM t) <;> cases distinctB l <;> simp
theorem right_ev (l : List Mv) (t : S24) (hl : l.length ≤ 1000000) : Ev (fun k => quernlaw13_right.f k l t.f0 t.f1) (rightB l t) := by
  have hj : ∀ b : Bool, placeB t = !b → Ev (fun k => quernlaw13_right.j0 k l b t.f0 t.f1) (rightB l t) := by
    intro b hb
    unfold rightB
    rw [hb]
    cases b
    · exact Ev.step (fun k => by rw [quernlaw13_right.j0, if_neg (by decide)]; rfl) (right_loop l t hl l.length 0 (by omega) (fun k hk => absurd hk (Nat.not_lt_zero k)) rfl)
    · exact Ev.step (fun k => by rw [quernlaw13_right.j0, if_pos rfl]) (Ev.now false)
  unfold quernlaw13_right.f
  by_cases h1 : t.f0 = 1
  · simp only [if_pos h1]
    exact hj _ (by unfold placeB; rw [h1]; by_cases h : t.f1 < 0 <;> simp [h] <;> omega)
  · simp only [if_neg h1]
    by_cases h2 : t.f0 = 2
    · simp only [if_pos h2]
      exact hj _ (by unfold placeB; rw [h2]; by_cases h : t.f1 < 0 <;> simp [h] <;> omega)
    · simp only [if_neg h2]
      exact hj _ (by unfold placeB; simp [h1, h2])
end Go.Proofs.Ytameoapnhmoleaa
