/- MovesLong, plain (chapter 13). -/
import Derived.Test.YtameoapnhmoleaaDD
set_option linter.unusedVariables false
set_option linter.unusedSimpArgs false
namespace Go.Proofs.Ytameoapnhmoleaa
open Go.RowKit Go.Proofs.YtameoapnhmoleaaW.PrintWords Go.Proofs.YtameoapnhmoleaaW.PrintLast Go.Proofs.YtameoapnhmoleaaW.PrintMore
open PP

def tL : S24 := ⟨2, 3⟩
def fr (N : Nat) (b2 : Bool) (k : Nat) : Nat := if b2 = true ∧ k + 1 = N then 0 else k + 1
def kk (N : Nat) (b1 : Bool) (i : Nat) : Nat := if b1 = true then N - 1 - i else i
def mvL (N : Nat) (b1 b2 : Bool) (i : Nat) : Mv := ⟨rn (kk N b1 i), rn (fr N b2 (kk N b1 i))⟩
def lst (N : Nat) (b1 b2 : Bool) (n : Nat) : List Mv := (List.range n).map (mvL N b1 b2)
theorem lst_len (N : Nat) (b1 b2 : Bool) (n : Nat) : (lst N b1 b2 n).length = n := by simp [lst]
theorem lst_succ (N : Nat) (b1 b2 : Bool) (n : Nat) : lst N b1 b2 (n + 1) = lst N b1 b2 n ++ [mvL N b1 b2 n] := by simp [lst, List.range_succ]
theorem lst_get (N : Nat) (b1 b2 : Bool) (n i : Nat) (h : i < n) : (lst N b1 b2 n)[i]? = some (mvL N b1 b2 i) := by simp [lst, h]
theorem kk_lt {N : Nat} {b1 : Bool} {i : Nat} (h : i < N) : kk N b1 i < N := by unfold kk; split <;> omega
theorem fr_ne {N : Nat} {b2 : Bool} {k : Nat} (hN : 2 ≤ N) : fr N b2 k ≠ k := by unfold fr; split <;> omega
theorem fr_le {N : Nat} {b2 : Bool} {k : Nat} (h : k < N) : fr N b2 k ≤ N := by unfold fr; split <;> omega
theorem lst_mem {N : Nat} {b1 b2 : Bool} {n : Nat} {x : Mv} (h : x ∈ lst N b1 b2 n) : ∃ i, i < n ∧ x = mvL N b1 b2 i := by
  simp [lst] at h
  obtain ⟨i, hi, e⟩ := h
  exact ⟨i, hi, e.symm⟩
theorem lst_filt (N : Nat) (b1 b2 : Bool) (hN : 2 ≤ N) : filtL (lst N b1 b2 N) = lst N b1 b2 N := by
  refine List.filter_eq_self.2 (fun x hx => ?_)
  obtain ⟨i, hi, rfl⟩ := lst_mem hx
  have : eqL (mvL N b1 b2 i).f1 (mvL N b1 b2 i).f0 = false := by
    rw [Bool.eq_false_iff]
    intro h
    have := rn_inj ((eqL_iff _ _).1 h)
    exact fr_ne hN this
  rw [this]; rfl
theorem distinct_of : ∀ {l : List Mv}, (l.map (·.f0)).Nodup → distinctB l = true
  | [], _ => rfl
  | m :: l, h => by
    rw [List.map_cons, List.nodup_cons] at h
    rw [distinctB, distinct_of h.2, Bool.and_true, List.all_eq_true]
    intro x hx
    have : eqL m.f0 x.f0 = false := by
      rw [Bool.eq_false_iff]
      intro e
      exact h.1 (List.mem_map.2 ⟨x, hx, ((eqL_iff _ _).1 e).symm⟩)
    rw [this]; rfl
theorem lst_ok (N : Nat) (b1 b2 : Bool) (hN : 2 ≤ N) : refuseK (lst N b1 b2 N) tL = 0 := by
  unfold refuseK
  have h1 : (lst N b1 b2 N).any (badM tL) = false := by
    rw [Bool.eq_false_iff]
    intro h
    obtain ⟨x, hx, hb⟩ := List.any_eq_true.1 h
    obtain ⟨i, hi, rfl⟩ := lst_mem hx
    simp [badM, mvL, placeB, eqL, rn, tL] at hb
  have h2 : distinctB (lst N b1 b2 N) = true := by
    refine distinct_of (List.pairwise_iff_getElem.2 fun i j hi hj hij e => ?_)
    simp only [List.getElem_map, lst, List.getElem_range] at e
    have hi' : i < N := by simpa [lst] using hi
    have hj' : j < N := by simpa [lst] using hj
    have := rn_inj e
    unfold kk at this
    split at this <;> omega
  rw [if_neg (by rw [h1]; simp [placeB, tL]), if_pos h2]
theorem lst_ends (N : Nat) (b1 b2 : Bool) (hN : 2 ≤ N) : ∃ o, Ends tL (lst N b1 b2 N) o ∧ o.length = if b2 = true then N + 1 else N := by
  have hT : tL.f0 ≠ 1 := by decide
  have hget : ∀ {l : List Mv}, l.length = N → (∀ i, i < N → l[i]? = some (mvL N b1 b2 i)) → lst N b1 b2 N = l := by
    intro l hl h
    refine List.ext_getElem? fun i => ?_
    rcases Nat.lt_or_ge i N with hi | hi
    · rw [lst_get _ _ _ _ _ hi, h i hi]
    · rw [List.getElem?_eq_none (by rw [lst_len]; exact hi), List.getElem?_eq_none (by omega)]
  cases b2
  · cases b1
    · refine ⟨chF 0 N, ?_, by simp [chF_len]⟩
      rw [hget (chF_len N 0) (fun i hi => by rw [chF_get N 0 i hi]; simp [mvL, kk, fr])]
      exact ends_F tL N 0
    · refine ⟨chF 0 N, ?_, by simp [chF_len]⟩
      rw [hget (l := (chF 0 N).reverse) (by simp [chF_len]) (fun i hi => by
        rw [List.getElem?_reverse (by rw [chF_len]; exact hi), chF_len, chF_get N 0 _ (by omega)]
        simp [mvL, kk, fr])]
      exact ends_R tL N 0
  · cases b1
    · refine ⟨⟨tL, rn 1⟩ :: (chF 1 (N - 2) ++ [⟨rn (N - 1), rn 0⟩, ⟨rn 0, tL⟩]), ?_, ?_⟩
      · rw [hget (l := chF 0 (N - 1) ++ [⟨rn (N - 1), rn 0⟩]) (by simp [chF_len]; omega) (fun i hi => by
          rcases Nat.lt_or_ge i (N - 1) with h | h
          · rw [List.getElem?_append_left (by rw [chF_len]; exact h), chF_get _ 0 i h]
            have : ¬ (i + 1 = N) := by omega
            simp [mvL, kk, fr, this]
          · obtain rfl : i = N - 1 := by omega
            rw [List.getElem?_append_right (by rw [chF_len]; omega), chF_len, Nat.sub_self]
            have : N - 1 + 1 = N := by omega
            simp [mvL, kk, fr, this])]
        exact ends_C tL hT N hN
      · simp [chF_len]; omega
    · refine ⟨⟨tL, rn 0⟩ :: (chF 0 (N - 1) ++ [⟨rn (N - 1), tL⟩]), ?_, ?_⟩
      · rw [hget (l := ⟨rn (N - 1), rn 0⟩ :: (chF 0 (N - 1)).reverse) (by simp [chF_len]; omega) (fun i hi => by
          cases i with
          | zero =>
            have : N - 1 + 1 = N := by omega
            simp [mvL, kk, fr, this]
          | succ i =>
            rw [List.getElem?_cons_succ, List.getElem?_reverse (by rw [chF_len]; omega), chF_len, chF_get _ 0 _ (by omega)]
            have e : N - 1 - 1 - i = N - 1 - (i + 1) := by omega
            have : ¬ (N - 1 - (i + 1) + 1 = N) := by omega
            simp [mvL, kk, fr, this, e])]
        exact ends_D tL hT N hN
      · simp [chF_len]; omega

/-! the cells -/
def okP (N : Nat) (p : S24) : Prop := p = tL ∨ ∃ j, j ≤ N ∧ p = rn j
def ix (N : Nat) (p : S24) : Nat := if p = tL then N + 1 else p.f1.toNat
theorem ix_rn (N j : Nat) : ix N (rn j) = j := by
  unfold ix
  rw [if_neg (by intro e; have := congrArg S24.f0 e; simp [rn, tL] at this)]
  simp [rn]
theorem ix_T (N : Nat) : ix N tL = N + 1 := by unfold ix; rw [if_pos rfl]
theorem ix_lt {N : Nat} {p : S24} (h : okP N p) : ix N p < N + 2 := by
  rcases h with rfl | ⟨j, hj, rfl⟩
  · rw [ix_T]; omega
  · rw [ix_rn]; omega
theorem ix_inj {N : Nat} {p q : S24} (hp : okP N p) (hq : okP N q) (h : ix N p = ix N q) : p = q := by
  rcases hp with rfl | ⟨j, hj, rfl⟩ <;> rcases hq with rfl | ⟨i, hi, rfl⟩
  · rfl
  · rw [ix_T, ix_rn] at h; omega
  · rw [ix_T, ix_rn] at h; omega
  · rw [ix_rn, ix_rn] at h; rw [h]
theorem place_ok {N : Nat} {p : S24} (h : okP N p) (hN : N ≤ 1000) : quernlaw13_place.f p.f0 p.f1 (N : Int) = some ((ix N p : Nat) : Int) := by
  rcases h with rfl | ⟨j, hj, rfl⟩
  · rw [ix_T]
    unfold quernlaw13_place.f
    rw [if_pos (by decide), wrap_nat N (by omega)]
  · rw [ix_rn]
    unfold quernlaw13_place.f
    rw [if_neg (by simp [rn]), if_pos (show (rn j).f0 = 1 from rfl), if_neg (show ¬ ((rn j).f1 < 0) by show ¬ ((j : Int) < 0); omega), if_neg (show ¬ ((rn j).f1 > (N : Int)) by show ¬ ((j : Int) > (N : Int)); omega)]
    rfl
def Rel (N : Nat) (c : List Int) (s : S24 → Int) : Prop := c.length = N + 2 ∧ ∀ p, okP N p → rd c ((ix N p : Nat) : Int) = s p
theorem rd_set {c : List Int} {i j : Nat} {v : Int} (hi : i < c.length) : rd (c.set i v) (j : Nat) = if j = i then v else rd c (j : Nat) := by
  rw [rd_nat, rd_nat, List.getD_eq_getElem?_getD, List.getD_eq_getElem?_getD, List.getElem?_set]
  by_cases h : i = j
  · subst h; simp [hi]
  · rw [if_neg h, if_neg (Ne.symm h)]
theorem rel_step {N : Nat} {c : List Int} {s : S24 → Int} {m : Mv} (h : Rel N c s) (h0 : okP N m.f0) (h1 : okP N m.f1) : Rel N (c.set (ix N m.f0) (rd c ((ix N m.f1 : Nat) : Int))) (upd s m.f0 (val s m.f1)) := by
  refine ⟨by simpa using h.1, fun p hp => ?_⟩
  have hv : val s m.f1 = s m.f1 := by
    unfold val
    rw [if_neg]
    rcases h1 with e | ⟨j, _, e⟩ <;> (rw [e]; simp [rn, tL])
  rw [rd_set (by rw [h.1]; exact ix_lt h0), hv, h.2 _ h1]
  by_cases e : p = m.f0
  · rw [if_pos (by rw [e]), e, upd_self]
  · rw [if_neg (fun e2 => e (ix_inj hp h0 e2)), upd_other e, h.2 _ hp]
section
variable {N : Nat} {kind : Int} (hN2 : 2 ≤ N) (hN : N ≤ 1000)
include hN2 hN
set_option linter.unusedSectionVars false
theorem long3_ev (c : List Int) (b2 : Bool) (hb2 : (Go.bits .and .i64 kind 2 = 2) = (b2 = true)) (hl : c.length = N + 2) (hc : ∀ k, k < N → rd c (k : Nat) = ((fr N b2 k : Nat) : Int)) : ∀ (d i : Nat), i + d = N → Ev (fun k => quernlaw13_MovesLong.l3 k N kind true c (i : Int)) true
  | 0, i, h => Ev.step (fun k => by rw [quernlaw13_MovesLong.l3, if_neg (by omega)]) (Ev.now true)
  | d + 1, i, h => by
    obtain ⟨K, hK⟩ := long3_ev c b2 hb2 hl hc d (i + 1) (by omega)
    refine ⟨K + 2, fun k hk => ?_⟩
    obtain ⟨k, rfl⟩ : ∃ m, k = m + 2 := ⟨k - 2, by omega⟩
    have e := hK k (by omega)
    have ec := hc i (by omega)
    simp only at e ⊢
    rw [quernlaw13_MovesLong.l3, if_pos (by omega), wrap_nat i (by omega)]
    cases b2 with
    | true =>
      rw [if_pos (by rw [hb2]), quernlaw13_MovesLong.j9]
      unfold fr at ec
      by_cases hi : i + 1 = N
      · rw [if_pos ⟨rfl, hi⟩] at ec
        rw [if_pos (by simp; omega), if_pos (by omega), if_pos (by omega), ec, if_pos (by omega), wrap_nat i (by omega)]
        exact e
      · rw [if_neg (fun h => hi h.2)] at ec
        rw [if_neg (by simp; omega), if_pos (by omega), if_pos (by omega), ec, if_pos (by omega), wrap_nat i (by omega)]
        exact e
    | false =>
      rw [if_neg (by rw [hb2]; decide), quernlaw13_MovesLong.j9]
      unfold fr at ec
      rw [if_neg (fun h => by cases h.1)] at ec
      rw [if_neg (by decide), if_pos (by omega), if_pos (by omega), ec, if_pos (by omega), wrap_nat i (by omega)]
      exact e
theorem long2_ev (a : List Mv) (ha : a.length ≤ 2000) (hok : ∀ m ∈ a, okP N m.f0 ∧ okP N m.f1) (sF : S24 → Int) (h : ∀ c, Rel N c sF → Ev (fun k => quernlaw13_MovesLong.l3 k N kind true c 0) true) :
    ∀ (d i : Nat) (c : List Int) (s : S24 → Int), i + d = a.length → Rel N c s → runs s (a.drop i) = sF → Ev (fun k => quernlaw13_MovesLong.l2 k N kind true a c (i : Int)) true
  | 0, i, c, s, hi, hr, hs => by
    rw [List.drop_of_length_le (by omega)] at hs
    have hs : s = sF := hs
    exact Ev.step (fun k => by rw [quernlaw13_MovesLong.l2, if_neg (by omega)]) (h c (hs ▸ hr))
  | d + 1, i, c, s, hi, hr, hs => by
    have hlt : i < a.length := by omega
    rw [drop_at a i hlt] at hs
    have hs : runs (upd s (a.getD i z36).f0 (val s (a.getD i z36).f1)) (a.drop (i + 1)) = sF := hs
    obtain ⟨o0, o1⟩ := hok _ (getD_mem (d := z36) hlt)
    have l0 := ix_lt o0
    have l1 := ix_lt o1
    have hcl := hr.1
    refine Ev.step (fun k => ?_) (long2_ev a ha hok sF h d (i + 1) _ _ (by omega) (rel_step hr o0 o1) hs)
    rw [quernlaw13_MovesLong.l2, if_pos (by omega), if_pos (by omega), rd36, place_ok o1 hN, Option.bind_some, place_ok o0 hN, Option.bind_some, if_neg (by omega), if_neg (by omega), if_pos (by omega), if_pos (by omega), if_pos (by omega), if_pos (by omega), Int.toNat_natCast, wrap_nat i (by omega)]
theorem long1_ev (a : List Mv) (h : ∀ c : List Int, c.length = N + 2 → (∀ j, j < N + 2 → rd c (j : Nat) = (j : Int)) → Ev (fun k => quernlaw13_MovesLong.l2 k N kind true a c 0) true) :
    ∀ (d i : Nat) (c : List Int), i + d = N + 2 → c.length = N + 2 → (∀ j, j < i → rd c (j : Nat) = (j : Int)) → Ev (fun k => quernlaw13_MovesLong.l1 k N kind true a c (i : Int)) true
  | 0, i, c, hi, hl, hc => by
    obtain rfl : i = N + 2 := by omega
    exact Ev.step (fun k => by rw [quernlaw13_MovesLong.l1, if_neg (by omega)]) (h c hl hc)
  | d + 1, i, c, hi, hl, hc => by
    refine Ev.step (fun k => ?_) (long1_ev a h d (i + 1) (c.set i i) (by omega) (by simpa using hl) (fun j hj => by
      rw [rd_set (by omega)]
      split
      · rename_i e; rw [e]
      · exact hc j (by omega)))
    rw [quernlaw13_MovesLong.l1, if_pos (by omega), if_pos (by omega), Int.toNat_natCast, wrap_nat i (by omega)]
theorem long0_ev (b1 b2 : Bool) (hb1 : (Go.bits .and .i64 kind 1 = 1) = (b1 = true)) (hb2 : (Go.bits .and .i64 kind 2 = 2) = (b2 = true)) (h : Ev (fun k => quernlaw13_MovesLong.l0 k N kind true (lst N b1 b2 N) (N : Int)) true) :
    ∀ (d i : Nat), i + d = N → Ev (fun k => quernlaw13_MovesLong.l0 k N kind true (lst N b1 b2 i) (i : Int)) true
  | 0, i, hi => by
    obtain rfl : i = N := by omega
    exact h
  | d + 1, i, hi => by
    obtain ⟨K, hK⟩ := long0_ev b1 b2 hb1 hb2 h d (i + 1) (by omega)
    refine ⟨K + 3, fun k hk => ?_⟩
    obtain ⟨k, rfl⟩ : ∃ m, k = m + 3 := ⟨k - 3, by omega⟩
    have e := hK k (by omega)
    simp only [lst_succ] at e
    have hll := lst_len N b1 b2 i
    have hkk : kk N b1 i < N := kk_lt (by omega)
    have e1 : quernlaw13_MovesLong.l0 (k + 3) N kind true (lst N b1 b2 i) (i : Int) = quernlaw13_MovesLong.j2 (k + 2) N kind true (lst N b1 b2 i) (i : Int) ((kk N b1 i : Nat) : Int) := by
      rw [quernlaw13_MovesLong.l0, if_pos (by omega)]
      cases b1 with
      | true =>
        rw [if_pos (by rw [hb1])]
        congr 1
        unfold kk
        rw [if_pos rfl]
        unfold wrap64
        omega
      | false => rw [if_neg (by rw [hb1]; decide)]; rfl
    show quernlaw13_MovesLong.l0 (k + 3) N kind true (lst N b1 b2 i) (i : Int) = some true
    rw [e1, quernlaw13_MovesLong.j2]
    unfold mvL fr at e
    cases b2 with
    | true =>
      rw [if_pos (by rw [hb2]), quernlaw13_MovesLong.j3, wrap_nat (kk N b1 i) (by omega)]
      by_cases hq : kk N b1 i + 1 = N
      · rw [if_pos ⟨rfl, hq⟩] at e
        rw [if_pos (by simp; omega), reg_f, Option.bind_some, reg_f, Option.bind_some, if_pos (by omega), wrap_nat i (by omega)]
        exact e
      · rw [if_neg (fun h => hq h.2)] at e
        rw [if_neg (by simp; omega), reg_f, Option.bind_some, reg_f, Option.bind_some, if_pos (by omega), wrap_nat i (by omega)]
        exact e
    | false =>
      rw [if_neg (by rw [hb2]; decide), quernlaw13_MovesLong.j3, wrap_nat (kk N b1 i) (by omega)]
      rw [if_neg (fun h => by cases h.1)] at e
      rw [if_neg (by decide), reg_f, Option.bind_some, reg_f, Option.bind_some, if_pos (by omega), wrap_nat i (by omega)]
      exact e
end
theorem movesLong_ev (a0 a1 : Int) : Ev (fun k => quernlaw13_MovesLong.f k a0 a1) true := by
  obtain ⟨K1, h1⟩ := alive_ev
  by_cases hr : 2 ≤ a0 ∧ a0 ≤ 1000
  · obtain ⟨N, rfl⟩ : ∃ N : Nat, a0 = (N : Int) := ⟨a0.toNat, by omega⟩
    have hN2 : 2 ≤ N := by omega
    have hN : N ≤ 1000 := by omega
    obtain ⟨b1, hb1⟩ : ∃ b1 : Bool, (Go.bits .and .i64 a1 1 = 1) = (b1 = true) := ⟨decide (Go.bits .and .i64 a1 1 = 1), by simp⟩
    obtain ⟨b2, hb2⟩ : ∃ b2 : Bool, (Go.bits .and .i64 a1 2 = 2) = (b2 = true) := ⟨decide (Go.bits .and .i64 a1 2 = 2), by simp⟩
    obtain ⟨oE, hE, hEl⟩ := lst_ends N b1 b2 hN2
    have hz := lst_ok N b1 b2 hN2
    obtain ⟨o, ⟨K2, h2⟩, -, h3⟩ := rorder_ev (lst N b1 b2 N) tL (by rw [lst_len]; exact hN)
    obtain ⟨hF, -⟩ := h3 hz
    rw [lst_filt N b1 b2 hN2] at hF
    obtain rfl := hF.det hE
    have hF2 : Ends tL (filtL (lst N b1 b2 N)) o := by rw [lst_filt N b1 b2 hN2]; exact hF
    have hol : o.length ≤ N + 1 := by rw [hEl]; split <;> omega
    have hok : ∀ m ∈ o, okP N m.f0 ∧ okP N m.f1 := by
      intro m hm
      refine ⟨?_, ?_⟩
      · rcases ends_to hF m hm with h | h
        · exact .inl h
        · obtain ⟨x, hx, e⟩ := List.mem_map.1 h
          obtain ⟨i, hi, rfl⟩ := lst_mem hx
          exact .inr ⟨_, Nat.le_of_lt (kk_lt hi), e.symm⟩
      · rcases ends_from hF m hm with h | h
        · exact .inl h
        · obtain ⟨x, hx, e⟩ := List.mem_map.1 h
          obtain ⟨i, hi, rfl⟩ := lst_mem hx
          exact .inr ⟨_, fr_le (kk_lt hi), e.symm⟩
    let s0 : S24 → Int := fun p => if p.f0 = 1 then p.f1 else ((N + 1 : Nat) : Int)
    have hrun := filt_run hz hF2 s0
    have h3' : ∀ c, Rel N c (runs s0 o) → Ev (fun k => quernlaw13_MovesLong.l3 k N a1 true c 0) true := fun c hc => by
      refine long3_ev hN2 hN c b2 hb2 hc.1 (fun k hk => ?_) N 0 (by omega)
      have h4 := hc.2 (rn k) (.inr ⟨k, by omega, rfl⟩)
      rw [ix_rn] at h4
      rw [h4]
      have hmem : (⟨rn k, rn (fr N b2 k)⟩ : Mv) ∈ lst N b1 b2 N := by
        have : ∃ i, i < N ∧ kk N b1 i = k := by
          cases b1 with
          | true => exact ⟨N - 1 - k, by omega, by unfold kk; rw [if_pos rfl]; omega⟩
          | false => exact ⟨k, hk, rfl⟩
        obtain ⟨i, hi, e⟩ := this
        have := List.mem_of_getElem? (lst_get N b1 b2 N i hi)
        unfold mvL at this
        rwa [e] at this
      have := hrun _ hmem
      rw [this]
      unfold val
      rw [if_neg (by simp [rn])]
      rfl
    have h2' : ∀ c : List Int, c.length = N + 2 → (∀ j, j < N + 2 → rd c (j : Nat) = (j : Int)) → Ev (fun k => quernlaw13_MovesLong.l2 k N a1 true o c 0) true := fun c hl hc => by
      refine long2_ev hN2 hN o (by omega) hok (runs s0 o) h3' o.length 0 c s0 (by omega) ⟨hl, fun p hp => ?_⟩ rfl
      rw [hc _ (ix_lt hp)]
      rcases hp with rfl | ⟨j, hj, rfl⟩
      · rw [ix_T]; rfl
      · rw [ix_rn]; rfl
    obtain ⟨K3, h1'⟩ := long1_ev (kind := a1) hN2 hN o h2' (N + 2) 0 (List.replicate (N + 2) 0) (by omega) (by simp) (fun j hj => absurd hj (Nat.not_lt_zero j))
    have h0 : Ev (fun k => quernlaw13_MovesLong.l0 k N a1 true (lst N b1 b2 N) (N : Int)) true := by
      refine ⟨K2 + K3 + 3, fun k hk => ?_⟩
      obtain ⟨k, rfl⟩ : ∃ m, k = m + 3 := ⟨k - 3, by omega⟩
      have e2 := h2 (k + 2) (by omega)
      have e3 := h1' k (by omega)
      simp only at e2 e3 ⊢
      rw [hz] at e2
      have e2 : quernref13_Order.f (k + 2) (lst N b1 b2 N) 2 3 = some (o, 0) := e2
      have hw : wrap64 ((N : Int) + 2) = ((N + 2 : Nat) : Int) := by unfold wrap64; omega
      rw [quernlaw13_MovesLong.l0, if_neg (by omega), order_f (by rw [lst_len]; exact hN), e2, Option.bind_some]
      cases b2 with
      | true =>
        rw [if_pos rfl] at hEl
        rw [if_pos (by rw [hb2]), quernlaw13_MovesLong.j4, if_pos rfl, quernlaw13_MovesLong.j5, if_neg (by rw [wrap_nat N (by omega), hEl]; simp), hw, if_pos (by omega), Int.toNat_natCast, if_pos (by omega)]
        exact e3
      | false =>
        rw [if_neg (by decide)] at hEl
        rw [if_neg (by rw [hb2]; decide), quernlaw13_MovesLong.j4, if_pos rfl, quernlaw13_MovesLong.j5, if_neg (by rw [hEl]; simp), hw, if_pos (by omega), Int.toNat_natCast, if_pos (by omega)]
        exact e3
    obtain ⟨K4, h5⟩ := long0_ev hN2 hN b1 b2 hb1 hb2 h0 N 0 (by omega)
    refine ⟨K1 + K4 + 2, fun k hk => ?_⟩
    obtain ⟨k, rfl⟩ : ∃ m, k = m + 1 := ⟨k - 1, by omega⟩
    have e1 := h1 (k + 1) (by omega)
    have e4 := h5 k (by omega)
    simp only at e1 e4 ⊢
    rw [quernlaw13_MovesLong.f, e1, Option.bind_some, if_neg (by omega), quernlaw13_MovesLong.j0, if_neg (by simp; omega)]
    exact e4
  · refine ⟨K1 + 1, fun k hk => ?_⟩
    obtain ⟨k, rfl⟩ : ∃ m, k = m + 1 := ⟨k - 1, by omega⟩
    have e1 := h1 (k + 1) (by omega)
    simp only at e1 ⊢
    rw [quernlaw13_MovesLong.f, e1, Option.bind_some]
    by_cases h : a0 < 2
    · rw [if_pos h, quernlaw13_MovesLong.j0, if_pos rfl]
    · rw [if_neg h, quernlaw13_MovesLong.j0, if_pos (by simp; omega)]
theorem movesLong_any (a0 a1 : Int) (w : World) (w0 : (Lit.int .i64 a0).wf = true) (w1 : (Lit.int .i64 a1).wf = true) :
    Calls Try.prog 6 #[.int .i64 a0, .int .i64 a1] w fun e w' => e = .returned (.bool true) ∧ Below w.heap.size w w' :=
  quernlaw13_MovesLong.walk (fun a0 a1 _ _ => (movesLong_ev a0 a1).rounds) a0 a1 w w0 w1
end Go.Proofs.Ytameoapnhmoleaa
