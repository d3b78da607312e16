/- MovesDo, plain (chapter 13). -/
import Derived.Test.YtameoapnhmoleaaDB
import Derived.Test.YtameoapnhmoleaaPD
set_option linter.unusedVariables false
set_option linter.unusedSimpArgs false
namespace Go.Proofs.Ytameoapnhmoleaa
open Go.RowKit Go.Proofs.YtameoapnhmoleaaW.PrintWords Go.Proofs.YtameoapnhmoleaaW.PrintLast Go.Proofs.YtameoapnhmoleaaW.PrintMore
open PP

def build : List S39 → List Mv → List S39
  | cs, [] => cs
  | cs, m :: r => build (cs ++ [⟨m.f0, val (stC cs) m.f1⟩]) r
theorem build_st : ∀ (r : List Mv) (cs : List S39), stC (build cs r) = runs (stC cs) r
  | [], _ => rfl
  | m :: r, cs => by
    rw [build, build_st r, stC_snoc]
    rfl
theorem build_len : ∀ (r : List Mv) (cs : List S39), (build cs r).length = cs.length + r.length
  | [], _ => rfl
  | m :: r, cs => by
    rw [build, build_len r]
    simp
    omega
theorem do0_ev (l a : List Mv) (t : S24) (ha : a.length ≤ 2000) (hk : ∀ m ∈ a, m.f0.f0 = 1 ∨ m.f0.f0 = 2) (h : Ev (fun k => quernlaw13_MovesDo.l1 k l a (build [] a) 0 t.f0 t.f1) true) :
    ∀ (d i : Nat) (cs : List S39), i + d = a.length → cs.length = i → build cs (a.drop i) = build [] a → Ev (fun k => quernlaw13_MovesDo.l0 k l a cs (i : Int) t.f0 t.f1) true
  | 0, i, cs, hi, hc, hb => by
    rw [List.drop_of_length_le (by omega)] at hb
    refine Ev.step (fun k => ?_) h
    rw [quernlaw13_MovesDo.l0, if_neg (by omega), ← hb]
    rfl
  | d + 1, i, cs, hi, hc, hb => by
    have hlt : i < a.length := by omega
    rw [drop_at a i hlt, build] at hb
    obtain ⟨K1, k1⟩ := held_ev cs (a.getD i z36).f1 (by omega)
    obtain ⟨K2, k2⟩ := do0_ev l a t ha hk h d (i + 1) (cs ++ [⟨(a.getD i z36).f0, val (stC cs) (a.getD i z36).f1⟩]) (by omega) (by simp [hc]) hb
    refine ⟨K1 + K2 + 1, fun k hk2 => ?_⟩
    obtain ⟨k, rfl⟩ : ∃ m, k = m + 1 := ⟨k - 1, by omega⟩
    have e1 := k1 k (by omega)
    have e2 := k2 k (by omega)
    simp only at e1 e2 ⊢
    rw [quernlaw13_MovesDo.l0, if_pos (by omega), if_pos (by omega), rd36]
    rcases hk _ (getD_mem (d := z36) hlt) with h1 | h1
    · rw [if_pos h1, e1, Option.bind_some, if_pos (by omega), wrap_nat i (by omega)]
      exact e2
    · rw [if_neg (by omega), if_pos h1, e1, Option.bind_some, if_pos (by omega), wrap_nat i (by omega)]
      exact e2
theorem do1_ev (l a : List Mv) (cs : List S39) (t : S24) (hl : l.length ≤ 1000) (hc : cs.length ≤ 1000000) (hk : ∀ m ∈ l, val (stC cs) m.f0 = val (stC []) m.f1) (h : Ev (fun k => quernlaw13_MovesDo.l2 k l a 0 t.f0 t.f1) true) :
    ∀ (d i : Nat), i + d = l.length → Ev (fun k => quernlaw13_MovesDo.l1 k l a cs (i : Int) t.f0 t.f1) true
  | 0, i, hi => Ev.step (fun k => by rw [quernlaw13_MovesDo.l1, if_neg (by omega)]) h
  | d + 1, i, hi => by
    have hlt : i < l.length := by omega
    obtain ⟨K1, k1⟩ := held_ev cs (l.getD i z36).f0 hc
    obtain ⟨K3, k3⟩ := held_ev [] (l.getD i z36).f1 (by simp)
    obtain ⟨K2, k2⟩ := do1_ev l a cs t hl hc hk h d (i + 1) (by omega)
    refine ⟨K1 + K2 + K3 + 1, fun k hk2 => ?_⟩
    obtain ⟨k, rfl⟩ : ∃ m, k = m + 1 := ⟨k - 1, by omega⟩
    have e1 := k1 k (by omega)
    have e2 := k2 k (by omega)
    have e3 := k3 k (by omega)
    simp only at e1 e2 e3 ⊢
    rw [quernlaw13_MovesDo.l1, if_pos (by omega), if_pos (by omega), rd36, e1, Option.bind_some, e3, Option.bind_some, if_pos (hk _ (getD_mem hlt)), wrap_nat i (by omega)]
    exact e2
theorem do3_ev (l a : List Mv) (t : S24) (hl : l.length ≤ 1000) (ha : a.length ≤ 2000) (i : Nat) (hi : i < a.length) (h : Ev (fun k => quernlaw13_MovesDo.l2 k l a ((i + 1 : Nat) : Int) t.f0 t.f1) true) :
    ∀ (d j : Nat) (b : Bool), j + d = l.length → (b = true ∨ ∃ q, j ≤ q ∧ q < l.length ∧ (l.getD q z36).f0 = (a.getD i z36).f0) → Ev (fun k => quernlaw13_MovesDo.l3 k l a (i : Int) b (j : Int) t.f0 t.f1) true
  | 0, j, b, hj, hb => by
    obtain rfl : b = true := by
      rcases hb with hb | ⟨q, h1, h2, _⟩
      · exact hb
      · omega
    refine Ev.step (fun k => ?_) h
    rw [quernlaw13_MovesDo.l3, if_neg (by omega), if_pos rfl, wrap_nat i (by omega)]
  | d + 1, j, b, hj, hb => by
    cases b with
    | true =>
      refine Ev.step (fun k => ?_) (do3_ev l a t hl ha i hi h d (j + 1) true (by omega) (.inl rfl))
      rw [quernlaw13_MovesDo.l3, if_pos (by omega), if_pos rfl, wrap_nat j (by omega)]
    | false =>
      refine Ev.step (fun k => ?_) (do3_ev l a t hl ha i hi h d (j + 1) (eqL (l.getD j z36).f0 (a.getD i z36).f0) (by omega) ?_)
      · rw [quernlaw13_MovesDo.l3, if_pos (by omega), if_neg (by decide), if_pos (by omega), if_pos (by omega), if_pos (by omega), rd36, rd36, wrap_nat j (by omega)]
        rfl
      · rcases hb with hb | ⟨q, h1, h2, h3⟩
        · cases hb
        · by_cases hq : q = j
          · subst hq
            exact .inl ((eqL_iff _ _).2 h3)
          · exact .inr ⟨q, by omega, h2, h3⟩
theorem do2_ev (l a : List Mv) (t : S24) (hl : l.length ≤ 1000) (ha : a.length ≤ 2000) (hk : ∀ m ∈ a, m.f0 = t ∨ m.f0 ∈ l.map (·.f0)) :
    ∀ (d i : Nat), i + d = a.length → Ev (fun k => quernlaw13_MovesDo.l2 k l a (i : Int) t.f0 t.f1) true
  | 0, i, hi => Ev.step (fun k => by rw [quernlaw13_MovesDo.l2, if_neg (by omega)]) (Ev.now true)
  | d + 1, i, hi => by
    have hlt : i < a.length := by omega
    refine Ev.step (fun k => ?_) (do3_ev l a t hl ha i hlt (do2_ev l a t hl ha hk d (i + 1) (by omega)) l.length 0 (eqL (a.getD i z36).f0 t) (by omega) ?_)
    · rw [quernlaw13_MovesDo.l2, if_pos (by omega), if_pos (by omega), rd36]
      rfl
    · rcases hk _ (getD_mem (d := z36) hlt) with h | h
      · exact .inl ((eqL_iff _ _).2 h)
      · obtain ⟨x, hx, he⟩ := List.mem_map.1 h
        obtain ⟨q, hq⟩ := List.getElem?_of_mem hx
        have hql := (List.getElem?_eq_some_iff.1 hq).1
        refine .inr ⟨q, Nat.zero_le _, hql, ?_⟩
        rw [List.getD_eq_getElem?_getD, hq]
        exact he
theorem refused_nil {l : List Mv} {t : S24} {o : List Mv} (hl : l.length ≤ 1000) (h : Ev (fun k => quernref13_Order.f k l t.f0 t.f1) (o, refuseK l t)) (hz : refuseK l t ≠ 0) : o = [] := by
  obtain ⟨K2, h2⟩ := h
  obtain ⟨o', ⟨K5, h5⟩, h6, -⟩ := rorder_ev l t hl
  have e5 := h5 (K5 + K2) (by omega)
  have e6 := h2 (K5 + K2) (by omega)
  simp only at e5 e6
  rw [e5] at e6
  injection e6 with e6
  injection e6 with e6 _
  rw [← e6]
  exact h6 hz
theorem movesDo_ev (l : List Mv) (t : S24) : Ev (fun k => quernlaw13_MovesDo.f k l t.f0 t.f1) true := by
  obtain ⟨K1, h1⟩ := alive_ev
  by_cases hl : l.length ≤ 300
  · obtain ⟨o, ⟨K2, h2⟩, h3, h4⟩ := rorder_ev l t (by omega)
    obtain ⟨K3, h5⟩ := right_ev l t (by omega)
    by_cases hz : refuseK l t = 0
    · have hr := (rightB_iff l t).2 hz
      obtain ⟨hE, hlen⟩ := h4 hz
      obtain ⟨hp, hall, hd⟩ := good_of hz
      have hto : ∀ m ∈ o, m.f0 = t ∨ m.f0 ∈ l.map (·.f0) := fun m hm => by
        rcases ends_to hE m hm with h | h
        · exact .inl h
        · exact .inr ((List.filter_sublist.map _).mem h)
      have hkind : ∀ m ∈ o, m.f0.f0 = 1 ∨ m.f0.f0 = 2 := fun m hm => by
        rcases hto m hm with h | h
        · rw [h]; exact place_kind hp
        · obtain ⟨x, hx, he⟩ := List.mem_map.1 h
          rw [← he]
          exact place_kind (bad_place hall x hx)
      have h2' := do2_ev l o t (by omega) (by omega) hto o.length 0 (by omega)
      have h1' := do1_ev l o (build [] o) t (by omega) (by rw [build_len]; simp; omega) (fun m hm => by
        have hne : m.f0.f0 ≠ 3 := by have := place_kind (bad_place hall m hm); omega
        rw [build_st]
        have := filt_run hz hE (stC [])
        unfold val
        rw [if_neg hne]
        exact this m hm) h2' l.length 0 (by omega)
      obtain ⟨K4, h6⟩ := do0_ev l o t (by omega) hkind h1' o.length 0 [] (by omega) rfl (by simp)
      refine ⟨K1 + K2 + K3 + K4 + 2, fun k hk => ?_⟩
      obtain ⟨k, rfl⟩ : ∃ m, k = m + 2 := ⟨k - 2, by omega⟩
      have e1 := h1 (k + 2) (by omega)
      have e2 := h2 (k + 1) (by omega)
      have e3 := h5 (k + 1) (by omega)
      have e4 := h6 k (by omega)
      simp only at e1 e2 e3 e4 ⊢
      have hw : wrap64 (2 * (l.length : Int)) = 2 * (l.length : Int) := by unfold wrap64; omega
      rw [quernlaw13_MovesDo.f, e1, Option.bind_some, if_pos rfl, quernlaw13_MovesDo.j0, if_neg (by simp; omega), lent_f l (by omega), Option.bind_some, if_pos (by omega), if_pos (by simp; omega), Int.toNat_natCast, List.take_left, order_f (by omega), e2, Option.bind_some, e3, Option.bind_some, if_pos hr, if_pos hz, quernlaw13_MovesDo.j1, if_neg (by rw [hw]; simp; omega)]
      exact e4
    · have hr : rightB l t = false := by
        cases hb : rightB l t
        · rfl
        · exact absurd ((rightB_iff l t).1 hb) hz
      have ho := h3 hz
      refine ⟨K1 + K2 + K3 + 2, fun k hk => ?_⟩
      obtain ⟨k, rfl⟩ : ∃ m, k = m + 2 := ⟨k - 2, by omega⟩
      have e1 := h1 (k + 2) (by omega)
      have e2 := h2 (k + 1) (by omega)
      have e3 := h5 (k + 1) (by omega)
      simp only at e1 e2 e3 ⊢
      rw [quernlaw13_MovesDo.f, e1, Option.bind_some, if_pos rfl, quernlaw13_MovesDo.j0, if_neg (by simp; omega), lent_f l (by omega), Option.bind_some, if_pos (by omega), if_pos (by simp; omega), Int.toNat_natCast, List.take_left, order_f (by omega), e2, Option.bind_some, e3, Option.bind_some, if_neg (by rw [hr]; decide), if_neg hz, ho]
      rfl
  · refine ⟨K1 + 1, fun k hk => ?_⟩
    obtain ⟨k, rfl⟩ : ∃ m, k = m + 1 := ⟨k - 1, by omega⟩
    have e1 := h1 (k + 1) (by omega)
    simp only at e1 ⊢
    rw [quernlaw13_MovesDo.f, e1, Option.bind_some, if_pos rfl, quernlaw13_MovesDo.j0, if_pos (by simp; omega)]
theorem movesDo_any (A : Option Addr) (n c : Nat) (l : List Mv) (t0 t1 : Int) (w : World) (hC : Kd.C k36 w A n l) (hnc : n ≤ c) :
    Calls Try.prog 4 #[.slice A n c, .agg #[.int .i64 t0, .int .i64 t1]] w fun e w' => e = .returned (.bool true) ∧ Below w.heap.size w w' := by
  obtain rfl := hC.1
  obtain ⟨k, hk⟩ := (movesDo_ev l ⟨t0, t1⟩).rounds
  exact quernlaw13_MovesDo.calls k A c l t0 t1 true w hC hnc hk
end Go.Proofs.Ytameoapnhmoleaa
