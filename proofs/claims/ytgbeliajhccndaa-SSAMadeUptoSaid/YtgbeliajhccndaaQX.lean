/- Lemmas of this claim (WC, WD). -/
import Derived.Test.YtgbeliajhccndaaQV
import Derived.Test.YtgbeliajhccndaaQW
section
set_option linter.unusedVariables false
set_option linter.unusedSimpArgs false
namespace Go.Proofs.Ytgbeliajhccndaa
open Go.RowKit Go.Proofs.YtgbeliajhccndaaW.PrintWords Go.Proofs.YtgbeliajhccndaaW.PrintLast Go.Proofs.YtgbeliajhccndaaW.PrintMore PP
theorem wrap_nat (i : Nat) (h : i < 4611686018427387904) : wrap64 ((i : Int) + 1) = ((i + 1 : Nat) : Int) := by
  unfold wrap64
  omega
theorem rd_nat (l : List Int) (i : Nat) : rd l (i : Int) = l.getD i 0 := rfl
theorem numbers_l0 (l : List Int) (n : Nat) (hl : l.length ≤ 1000000000) (h : l.all (inB n) = true) : ∀ m i : Nat, i + m = l.length → Ev (fun k => quernlaw9_numbers.l0 k l (n : Int) (i : Int)) true
  | 0, i, e => Ev.step (fun k => by rw [quernlaw9_numbers.l0, if_neg (by omega)]) (Ev.now _)
  | m + 1, i, e => by
    obtain ⟨h0, h1⟩ := inB_iff (List.all_eq_true.1 h (l.getD i 0) (mem_getD 0 (by omega)))
    exact Ev.step (fun k => by rw [quernlaw9_numbers.l0, if_pos (by omega), if_pos (by omega), rd_nat, if_neg (by omega), if_neg (by omega), wrap_nat i (by omega)]) (numbers_l0 l n hl h m (i + 1) (by omega))
theorem numbers_ev (l : List Int) (n : Nat) (hl : l.length ≤ 1000000000) (h : l.all (inB n) = true) : Ev (fun k => quernlaw9_numbers.f k l (n : Int)) true := numbers_l0 l n hl h l.length 0 (by omega)
theorem rd42 (l : List S42) (i : Nat) : rd_T42 l (i : Int) = l.getD i z42 := rfl
theorem rd46 (l : List S46) (i : Nat) : rd_T46 l (i : Int) = l.getD i z46 := rfl
structure RangeH (f : S38) : Prop where
  par : f.f1.all (inB f.f3.length) = true
  lp : f.f1.length ≤ 1000000000
  lv : f.f3.length ≤ 1000000000
  lb : f.f4.length ≤ 1000000000
  some_ : 0 < f.f4.length
  al : ∀ v ∈ f.f3, v.f3.length ≤ 1000000000 ∧ v.f3.all (inB f.f3.length) = true
  bl : ∀ b ∈ f.f4, (b.f0.length ≤ 1000000000 ∧ b.f1.length ≤ 1000000000 ∧ b.f2.f2.length ≤ 1000000000 ∧ b.f3.length ≤ 1000000000) ∧ b.f0.all (inB f.f3.length) = true ∧ b.f1.all (inB f.f3.length) = true ∧ b.f2.f1 < (f.f3.length : Int) ∧ b.f3.all (inB f.f4.length) = true ∧ b.f2.f2.all (inB f.f4.length) = true
theorem ranges_l1 {f : S38} (H : RangeH f) : ∀ m i : Nat, i + m = f.f4.length → Ev (fun k => quernlaw9_ranges.l1 k (f.f3.length : Int) true (i : Int) f.f0 f.f1 f.f2 f.f3 f.f4) true
  | 0, i, e => Ev.step (fun k => by rw [quernlaw9_ranges.l1, if_neg (by omega), if_pos rfl, decide_eq_true (by have := H.some_; omega)]) (Ev.now _)
  | m + 1, i, e => by
    obtain ⟨⟨h1, h2, h3, h4⟩, h5, h6, h7, h8, h9⟩ := H.bl (f.f4.getD i z46) (mem_getD z46 (by omega))
    have hb := H.lb
    refine Ev.step (fun k => by rw [quernlaw9_ranges.l1, if_pos (by omega), if_pos (by omega), if_pos rfl, rd46]) ?_
    refine Ev.bind (numbers_ev _ _ h1 h5) (Ev.congr (fun k => if_pos rfl) ?_)
    refine Ev.bind (numbers_ev _ _ h2 h6) (Ev.congr (fun k => if_pos rfl) (Ev.congr (fun k => if_pos h7) ?_))
    refine Ev.bind (numbers_ev _ _ h4 h8) (Ev.congr (fun k => if_pos rfl) ?_)
    refine Ev.bind (numbers_ev _ _ h3 h9) ?_
    exact Ev.congr (fun k => by rw [wrap_nat i (by omega)]) (ranges_l1 H m (i + 1) (by omega))
theorem ranges_l0 {f : S38} (H : RangeH f) : ∀ m i : Nat, i + m = f.f3.length → Ev (fun k => quernlaw9_ranges.l0 k (f.f3.length : Int) true (i : Int) f.f0 f.f1 f.f2 f.f3 f.f4) true
  | 0, i, e => Ev.step (fun k => by rw [quernlaw9_ranges.l0, if_neg (by omega)]; rfl) (ranges_l1 H f.f4.length 0 (by omega))
  | m + 1, i, e => by
    obtain ⟨h1, h2⟩ := H.al (f.f3.getD i z42) (mem_getD z42 (by omega))
    have hb := H.lv
    refine Ev.step (fun k => by rw [quernlaw9_ranges.l0, if_pos (by omega), if_pos rfl, if_pos (by omega), if_pos (by omega), rd42]) ?_
    refine Ev.bind (numbers_ev _ _ h1 h2) ?_
    exact Ev.congr (fun k => by rw [wrap_nat i (by omega)]) (ranges_l0 H m (i + 1) (by omega))
theorem ranges_ev {f : S38} (H : RangeH f) : Ev (fun k => quernlaw9_ranges.f k f.f0 f.f1 f.f2 f.f3 f.f4) true :=
  Ev.bind (numbers_ev _ _ H.lp H.par) (ranges_l0 H f.f3.length 0 (by omega))
structure MInv (ts : List (List Int)) (out : Int) (n i : Nat) (seen : List Bool) (l : List Int) : Prop where
  sl : seen.length = n
  zero : (0 : Int) ∈ l
  way : ∀ x ∈ l, inB n x = true ∧ Way ts out x
  seen_ : ∀ j : Nat, j < n → (seen.getD j false = true ↔ (j : Int) ∈ l)
  nd : (l.map Int.toNat).Nodup
  le : i ≤ l.length
  done : ∀ j, j < i → ∀ y ∈ ts.getD (l.getD j 0).toNat [], y ≠ out → y ∈ l
theorem MInv.len {ts : List (List Int)} {out : Int} {n i : Nat} {seen : List Bool} {l : List Int} (h : MInv ts out n i seen l) : l.length ≤ n := by
  have := nodup_le n _ h.nd (fun x hx => by
    obtain ⟨b, hb, rfl⟩ := List.mem_map.1 hx
    have := inB_iff (h.way b hb).1
    omega)
  simpa using this
theorem MInv.add {ts : List (List Int)} {out : Int} {n i : Nat} {seen : List Bool} {l : List Int} (h : MInv ts out n i seen l) {v : Int} (hv : inB n v = true) (hw : Way ts out v) (hn : v ∉ l) : MInv ts out n i (seen.set v.toNat true) (l ++ [v]) := by
  obtain ⟨v0, v1⟩ := inB_iff hv
  refine ⟨by rw [List.length_set]; exact h.sl, by simp [h.zero], fun x hx => ?_, fun j hj => ?_, ?_, by have := h.le; simp; omega, fun j hj y hy hne => ?_⟩
  · rcases List.mem_append.1 hx with hx | hx
    · exact h.way x hx
    · rw [List.mem_singleton.1 hx]
      exact ⟨hv, hw⟩
  · rw [List.getD_eq_getElem?_getD, List.getElem?_set, List.mem_append, List.mem_singleton]
    by_cases e : v.toNat = j
    · have e2 : (j : Int) = v := by omega
      rw [if_pos e, if_pos (by have := h.sl; omega)]
      simp [e2]
    · have e2 : ¬ (j : Int) = v := by omega
      rw [if_neg e, ← List.getD_eq_getElem?_getD, h.seen_ j hj]
      simp [e2]
  · rw [List.map_append]
    refine List.nodup_append.2 ⟨h.nd, by simp, fun a ha b hb => ?_⟩
    obtain ⟨x, hx, rfl⟩ := List.mem_map.1 ha
    simp at hb
    subst hb
    intro e
    have := (inB_iff (h.way x hx).1).1
    exact hn (by rw [show v = x from by omega]; exact hx)
  · have hjl : j < l.length := by have := h.le; omega
    have e : (l ++ [v]).getD j 0 = l.getD j 0 := by rw [List.getD_eq_getElem?_getD, List.getElem?_append_left hjl, ← List.getD_eq_getElem?_getD]
    rw [e] at hy
    exact List.mem_append_left _ (h.done j hj y hy hne)
theorem ways_at {f : S38} {x : Int} (hx : inB f.f4.length x = true) : (rd_T46 f.f4 x).f2.f2 = (waysL f).getD x.toNat [] := by
  obtain ⟨h0, h1⟩ := inB_iff hx
  unfold rd_T46 waysL
  rw [List.getD_eq_getElem?_getD, List.getD_eq_getElem?_getD, List.getElem?_map, List.getElem?_eq_getElem (by omega)]
  rfl
theorem rdOf_nat (l : List Bool) (x : Int) : rdOf false l x = l.getD x.toNat false := rfl
section
variable {f : S38} {to_ out : Int} {b : Bool}
theorem met_l1 (hn : f.f4.length ≤ 1000000000) {i : Nat}
    (ih : ∀ seen l, MInv (waysL f) out f.f4.length (i + 1) seen l → Ev (fun k => quernlaw9_met.l0 k to_ out seen l ((i + 1 : Nat) : Int) f.f0 f.f1 f.f2 f.f3 f.f4) b)
    {x : Int} {nx : List Int} (hnx : nx = (waysL f).getD x.toNat []) (hin : nx.all (inB f.f4.length) = true) (hnl : nx.length ≤ 1000000000) :
    ∀ m q seen l, q + m = nx.length → i < l.length → l.getD i 0 = x → MInv (waysL f) out f.f4.length i seen l → (∀ y ∈ nx.take q, y ≠ out → y ∈ l) →
      Ev (fun k => quernlaw9_met.l1 k to_ out seen l (i : Int) nx (q : Int) f.f0 f.f1 f.f2 f.f3 f.f4) b
  | 0, q, seen, l, e, hi, hx, h, hq => by
    have hle := h.len
    refine Ev.step (fun k => by rw [quernlaw9_met.l1, if_neg (by omega), wrap_nat i (by omega)]) (ih seen l ⟨h.sl, h.zero, h.way, h.seen_, h.nd, by omega, fun j hj y hy hne => ?_⟩)
    by_cases e2 : j = i
    · subst e2
      rw [hx, ← hnx] at hy
      rw [List.take_of_length_le (by omega)] at hq
      exact hq y hy hne
    · exact h.done j (by omega) y hy hne
  | m + 1, q, seen, l, e, hi, hx, h, hq => by
    have hle := h.len
    have hql : q < nx.length := by omega
    have hv := List.all_eq_true.1 hin (nx.getD q 0) (mem_getD 0 hql)
    obtain ⟨v0, v1⟩ := inB_iff hv
    have htk : nx.take (q + 1) = nx.take q ++ [nx.getD q 0] := by
      rw [List.take_succ_eq_append_getElem hql, List.getD_eq_getElem?_getD, List.getElem?_eq_getElem hql]
      rfl
    obtain ⟨v, hvd⟩ : ∃ v, v = nx.getD q 0 := ⟨_, rfl⟩
    rw [← hvd] at hv v0 v1 htk
    by_cases e1 : v = out
    · refine Ev.step (fun k => by rw [quernlaw9_met.l1, if_pos (by omega), if_pos (by omega), rd_nat, ← hvd, if_pos e1, wrap_nat q (by omega)]) (met_l1 hn ih hnx hin hnl m (q + 1) seen l (by omega) hi hx h (fun y hy hne => ?_))
      rw [htk] at hy
      rcases List.mem_append.1 hy with hy | hy
      · exact hq y hy hne
      · rw [List.mem_singleton.1 hy] at hne
        exact absurd e1 hne
    · by_cases e2 : seen.getD v.toNat false = true
      · have hvl : v ∈ l := by
          have := (h.seen_ v.toNat (by omega)).1 e2
          rwa [Int.toNat_of_nonneg v0] at this
        refine Ev.step (fun k => by rw [quernlaw9_met.l1, if_pos (by omega), if_pos (by omega), rd_nat, ← hvd, if_neg e1, if_pos v0, if_pos (by rw [h.sl]; exact v1), rdOf_nat, if_pos e2, wrap_nat q (by omega)]) (met_l1 hn ih hnx hin hnl m (q + 1) seen l (by omega) hi hx h (fun y hy hne => ?_))
        rw [htk] at hy
        rcases List.mem_append.1 hy with hy | hy
        · exact hq y hy hne
        · rw [List.mem_singleton.1 hy]
          exact hvl
      · have hvl : v ∉ l := fun hm => e2 ((h.seen_ v.toNat (by omega)).2 (by rwa [Int.toNat_of_nonneg v0]))
        have hw : Way (waysL f) out v := by
          refine (h.way x (by rw [← hx]; exact mem_getD 0 hi)).2.step ?_ e1
          show v ∈ (waysL f).getD x.toNat []
          rw [← hnx, hvd]
          exact mem_getD 0 hql
        refine Ev.step (fun k => by rw [quernlaw9_met.l1, if_pos (by omega), if_pos (by omega), rd_nat, ← hvd, if_neg e1, if_pos v0, if_pos (by rw [h.sl]; exact v1), rdOf_nat, if_neg e2, if_pos (by omega), wrap_nat q (by omega)]) (met_l1 hn ih hnx hin hnl m (q + 1) (seen.set v.toNat true) (l ++ [v]) (by omega) (by rw [List.length_append]; omega) ?_ (h.add hv hw hvl) (fun y hy hne => ?_))
        · rw [List.getD_eq_getElem?_getD, List.getElem?_append_left hi, ← List.getD_eq_getElem?_getD]
          exact hx
        · rw [htk] at hy
          rcases List.mem_append.1 hy with hy | hy
          · exact List.mem_append_left _ (hq y hy hne)
          · exact List.mem_append_right _ hy
theorem met_l0 (hg : goodB (waysL f) = true) (h2 : ∀ b ∈ f.f4, b.f2.f2.length ≤ 1000000000) (hn : f.f4.length ≤ 1000000000) (hto : inB f.f4.length to_ = true) (hb : b = true ↔ Way (waysL f) out to_) :
    ∀ m i seen l, i + m = f.f4.length → MInv (waysL f) out f.f4.length i seen l → Ev (fun k => quernlaw9_met.l0 k to_ out seen l (i : Int) f.f0 f.f1 f.f2 f.f3 f.f4) b := by
  have fin : ∀ (i : Nat) (seen : List Bool) (l : List Int), ¬ i < l.length → MInv (waysL f) out f.f4.length i seen l → Ev (fun k => quernlaw9_met.l0 k to_ out seen l (i : Int) f.f0 f.f1 f.f2 f.f3 f.f4) b := by
    intro i seen l hi h
    obtain ⟨t0, t1⟩ := inB_iff hto
    have hle := h.le
    have e : rdOf false seen to_ = b := by
      rw [rdOf_nat]
      have h1 := h.seen_ to_.toNat (by omega)
      rw [Int.toNat_of_nonneg t0] at h1
      have h3 : seen.getD to_.toNat false = true ↔ b = true := by
        rw [h1, hb]
        constructor
        · exact fun hm => (h.way _ hm).2
        · intro hw
          refine hw.ind (fun _ => h.zero) (fun p x hp hpl he hne => ?_)
          obtain ⟨j, hj, ej⟩ := List.mem_iff_getElem.1 hpl
          refine h.done j (by omega) x ?_ hne
          have ep : l.getD j 0 = p := by rw [List.getD_eq_getElem?_getD, List.getElem?_eq_getElem hj, ej]; rfl
          rw [ep]
          exact he
      cases hs : seen.getD to_.toNat false <;> cases hb2 : b <;> simp_all
    exact Ev.step (fun k => by rw [quernlaw9_met.l0, if_neg (by omega), if_pos t0, if_pos (by rw [h.sl]; exact t1), e]) (Ev.now _)
  intro m
  induction m with
  | zero =>
    intro i seen l e h
    exact fin i seen l (by have := h.len; omega) h
  | succ m ih =>
    intro i seen l e h
    by_cases hi : i < l.length
    · have hx := (h.way (l.getD i 0) (mem_getD 0 hi)).1
      obtain ⟨x0, x1⟩ := inB_iff hx
      have hl : (waysL f).length = f.f4.length := by simp [waysL]
      have hmem : (waysL f).getD (l.getD i 0).toNat [] ∈ waysL f := mem_getD [] (by omega)
      have hin : ((waysL f).getD (l.getD i 0).toNat []).all (inB f.f4.length) = true := by
        unfold goodB at hg
        rw [Bool.and_eq_true, hl] at hg
        exact List.all_eq_true.1 hg.1 _ hmem
      have hnl : ((waysL f).getD (l.getD i 0).toNat []).length ≤ 1000000000 := by
        unfold waysL at hmem
        obtain ⟨bb, hbb, e2⟩ := List.mem_map.1 hmem
        unfold waysL
        rw [← e2]
        exact h2 bb hbb
      exact Ev.step (fun k => by rw [quernlaw9_met.l0, if_pos (by omega), if_pos (by omega), rd_nat, if_pos x0, if_pos x1, ways_at hx]; rfl) (met_l1 hn (fun seen l h => ih (i + 1) seen l (by omega) h) rfl hin hnl ((waysL f).getD (l.getD i 0).toNat []).length 0 seen l (by omega) hi rfl h (fun y hy => by simp at hy))
    · exact fin i seen l hi h
theorem met_ev (hg : goodB (waysL f) = true) (h2 : ∀ b ∈ f.f4, b.f2.f2.length ≤ 1000000000) (hn : f.f4.length ≤ 1000000000) (hto : inB f.f4.length to_ = true) (hb : b = true ↔ Way (waysL f) out to_) :
    Ev (fun k => quernlaw9_met.f k f.f0 f.f1 f.f2 f.f3 f.f4 to_ out) b := by
  obtain ⟨t0, t1⟩ := inB_iff hto
  unfold quernlaw9_met.f
  refine Ev.congr (fun k => by rw [if_pos (by omega), if_pos (by rw [Int.toNat_natCast]; omega), Option.bind_some]) ?_
  by_cases e : out = 0
  · have : b = false := by
      cases hb2 : b with
      | false => rfl
      | true =>
        have hw := hb.1 hb2
        exact absurd (hw.ind (Q := fun _ => False) (fun h => h e.symm) (fun _ _ _ h _ _ => h)) id
    rw [this]
    exact Ev.congr (fun k => by rw [if_pos e]) (Ev.now _)
  · refine Ev.congr (fun k => by rw [if_neg e, if_pos (by rw [List.length_replicate]; omega)]) ?_
    refine met_l0 hg h2 hn hto hb f.f4.length 0 _ _ (by omega) ⟨by simp, by simp, fun x hx => ?_, fun j hj => ?_, by simp, Nat.zero_le _, fun j hj => absurd hj (Nat.not_lt_zero _)⟩
    · rw [List.mem_singleton.1 hx]
      exact ⟨by simp [inB]; omega, Way.zero (fun h => e h.symm)⟩
    · rw [Int.toNat_natCast, List.getD_eq_getElem?_getD, List.getElem?_set]
      by_cases e2 : (0 : Int).toNat = j
      · rw [if_pos e2, if_pos (by simp; omega)]
        have : j = 0 := by simpa using e2.symm
        simp [this]
      · rw [if_neg e2]
        have : ¬ (j : Int) = 0 := by
          intro h; apply e2; simp; omega
        have h0 : ¬ j = 0 := by omega
        simp [List.getElem?_replicate, hj, h0]
end
end Go.Proofs.Ytgbeliajhccndaa
end
section
set_option linter.unusedVariables false
set_option linter.unusedSimpArgs false
namespace Go.Proofs.Ytgbeliajhccndaa
open Go.RowKit Go.Proofs.YtgbeliajhccndaaW.PrintWords Go.Proofs.YtgbeliajhccndaaW.PrintLast Go.Proofs.YtgbeliajhccndaaW.PrintMore PP
theorem ev_all {α : Type} {g : Nat → Nat → Option α} {r : Nat → α} : ∀ n, (∀ i, i < n → Ev (g i) (r i)) → ∃ K, ∀ k, K ≤ k → ∀ i, i < n → g i k = some (r i)
  | 0, _ => ⟨0, fun _ _ i hi => absurd hi (Nat.not_lt_zero _)⟩
  | n + 1, h => by
    obtain ⟨K, hK⟩ := ev_all n (fun i hi => h i (by omega))
    obtain ⟨K2, hK2⟩ := h n (by omega)
    refine ⟨max K K2, fun k hk i hi => ?_⟩
    by_cases e : i = n
    · subst e
      exact hK2 k (by omega)
    · exact hK k (by omega) i (by omega)
theorem ev_all2 {α : Type} {g : Nat → Nat → Nat → Option α} {r : Nat → Nat → α} (m : Nat) : ∀ n, (∀ i j, i < n → j < m → Ev (g i j) (r i j)) → ∃ K, ∀ k, K ≤ k → ∀ i j, i < n → j < m → g i j k = some (r i j)
  | 0, _ => ⟨0, fun _ _ i _ hi => absurd hi (Nat.not_lt_zero _)⟩
  | n + 1, h => by
    obtain ⟨K, hK⟩ := ev_all2 m n (fun i j hi hj => h i j (by omega) hj)
    obtain ⟨K2, hK2⟩ := ev_all m (fun j hj => h n j (by omega) hj)
    refine ⟨max K K2, fun k hk i j hi hj => ?_⟩
    by_cases e : i = n
    · subst e
      exact hK2 k (by omega) j hj
    · exact hK k (by omega) i j (by omega) hj
def LenT (n : Nat) (s : Tri) : Prop := s.1.length = n ∧ s.2.1.length = n ∧ s.2.2.length = n
theorem put3_len {n : Nat} {s : Tri} (h : LenT n s) (v b k : Int) : LenT n (put3 s v b k) := by
  obtain ⟨h1, h2, h3⟩ := h
  exact ⟨by simp [put3, h1], by simp [put3, h2], by simp [put3, h3]⟩
theorem putL_len {n : Nat} {b : Int} : ∀ (l : List Int) {s : Tri}, LenT n s → LenT n (putL b s l)
  | [], _, h => h
  | v :: r, _, h => putL_len r (put3_len h _ _ _)
theorem putK_len {n : Nat} {b : Int} : ∀ (l : List Int) {s : Tri} {k : Int}, LenT n s → LenT n (putK b s k l)
  | [], _, _, h => h
  | v :: r, _, _, h => putK_len r (put3_len h _ _ _)
theorem putBs_len {n : Nat} : ∀ (l : List S46) {s : Tri} {i : Int}, LenT n s → LenT n (putBs s i l)
  | [], _, _, h => h
  | b :: r, _, _, h => putBs_len r (putK_len _ (putL_len _ h))
theorem once_len (f : S38) : LenT f.f3.length (onceT f) := putBs_len f.f4 (putL_len f.f1 ⟨by simp [zeros], by simp [zeros], by simp [zeros]⟩)
theorem plcF_len (f : S38) : (plcF f).length = f.f3.length := plcL_len (once_len f).1 (once_len f).2.1
theorem plcF_at {f : S38} {a : Int} (h : inB f.f3.length a = true) : rd_T67 (plcF f) a = ⟨whereV f a, atV f a⟩ := by
  obtain ⟨a0, a1⟩ := inB_iff h
  unfold rd_T67 plcF
  rw [List.getD_eq_getElem?_getD, plcL_get (once_len f).1 (once_len f).2.1 a.toNat (by omega)]
  rfl
theorem there_ev {f : S38} (hF : Facts f) (hr : ∀ x, inB (waysL f).length x = true → Way (waysL f) (-1) x) (hg : goodB (waysL f) = true) (h2 : ∀ b ∈ f.f4, b.f2.f2.length ≤ 1000000000) (hn : f.f4.length ≤ 1000000000) (hs : 0 < f.f4.length) {a p : Int} (ha : inB f.f3.length a = true) (hp : inB f.f4.length p = true) :
    Ev (fun k => quernlaw9_there.f k f.f0 f.f1 f.f2 f.f3 f.f4 (plcF f) a p) (seenB (usK f) a p) := by
  obtain ⟨a0, a1⟩ := inB_iff ha
  have hl : (waysL f).length = f.f4.length := by simp [waysL]
  have hw : whereV f a < ((waysL f).length : Int) := by
    have := once_wh hs a.toNat (by omega)
    rw [hl]
    exact this
  have hsi := seen_iff hF hr (v := a) (b := p) (by rw [hl]; exact hp) hw
  unfold quernlaw9_there.f
  refine Ev.congr (fun k => by rw [if_pos a0, if_pos (by rw [plcF_len]; exact a1), plcF_at ha]) ?_
  by_cases h0 : whereV f a < 0
  · rw [hsi.2 (.inl h0)]
    exact Ev.congr (fun k => if_pos h0) (Ev.now _)
  · refine Ev.congr (fun k => if_neg h0) ?_
    have hb : (!seenB (usK f) a p) = true ↔ Way (waysL f) (whereV f a) p := by
      rw [Bool.not_eq_true', ← Bool.not_eq_true, hsi]
      constructor
      · intro h
        exact Classical.byContradiction fun hn => h (.inr hn)
      · rintro h (h1 | h1)
        · exact h0 h1
        · exact h1 h
    refine Ev.bind (met_ev hg h2 hn hp hb) ?_
    rw [Bool.not_not]
    exact Ev.now _
theorem uses_at {f : S38} {u : Us} : ∀ (l : List S46) (j : Int), usesB f u j l = true → ∀ (i : Nat) (b : S46), l[i]? = some b → blkUse f u (j + i) b = true
  | [], _, _, i, b, e => by simp at e
  | x :: r, j, h, 0, b, e => by
    simp at e
    subst e
    unfold usesB at h
    rw [Bool.and_eq_true] at h
    simpa using h.1
  | x :: r, j, h, i + 1, b, e => by
    unfold usesB at h
    rw [Bool.and_eq_true] at h
    have := uses_at r (j + 1) h.2 i b (by simpa using e)
    rw [show j + ((i + 1 : Nat) : Int) = j + 1 + (i : Int) from by omega]
    exact this
theorem phiUse_at {f : S38} {u : Us} {ps : List Int} : ∀ (l : List Int), phiUse f u ps l = true → ∀ v ∈ l, pairsB u (argsOf f v) ps = true
  | [], _, v, h => by simp at h
  | x :: r, h, v, hv => by
    unfold phiUse at h
    rw [Bool.and_eq_true] at h
    rcases List.mem_cons.1 hv with rfl | hv
    · exact h.1
    · exact phiUse_at r h.2 v hv
theorem pairs_at {u : Us} : ∀ (l s : List Int), pairsB u l s = true → ∀ j, j < l.length → seenB u (l.getD j 0) (s.getD j 0) = true
  | [], _, _, j, h => by simp at h
  | _ :: _, [], h, _, _ => by simp [pairsB] at h
  | a :: r, p :: s, h, 0, _ => by
    unfold pairsB at h
    rw [Bool.and_eq_true] at h
    exact h.1
  | a :: r, p :: s, h, j + 1, hj => by
    unfold pairsB at h
    rw [Bool.and_eq_true] at h
    have := pairs_at r s h.2 j (by simpa using hj)
    simpa using this
theorem bodyUse_at {f : S38} {u : Us} {i : Int} : ∀ (l : List Int) (k0 : Int), bodyUse f u i k0 l = true → ∀ (k : Nat) (v : Int), l[k]? = some v → (argsOf f v).all (useB u i (k0 + k)) = true
  | [], _, _, k, v, e => by simp at e
  | x :: r, k0, h, 0, v, e => by
    simp at e
    subst e
    unfold bodyUse at h
    rw [Bool.and_eq_true] at h
    simpa using h.1
  | x :: r, k0, h, k + 1, v, e => by
    unfold bodyUse at h
    rw [Bool.and_eq_true] at h
    have := bodyUse_at r (k0 + 1) h.2 k v (by simpa using e)
    rw [show k0 + ((k + 1 : Nat) : Int) = k0 + 1 + (k : Int) from by omega]
    exact this
theorem term_at {f : S38} {t : S44} (h : termB f t = true) : t.f1 = -1 ∨ inB f.f3.length t.f1 = true := by
  unfold termB at h
  repeat' split at h
  all_goals first | (simp only [Bool.and_eq_true, beq_iff_eq] at h; first | exact .inl h.1 | exact .inr h.1) | cases h
theorem first_zero {fs : List S38} {mn : Int} : ∀ {l : List S38}, firstE fs mn l = 0 → ∀ f ∈ l, funcE (dOf fs mn f) = 0
  | [], _, f, h => by simp at h
  | x :: r, h, f, hf => by
    unfold firstE at h
    by_cases e : funcE (dOf fs mn x) ≠ 0
    · rw [if_pos e] at h
      exact absurd h e
    · rw [if_neg e] at h
      rcases List.mem_cons.1 hf with rfl | hf
      · exact Classical.not_not.1 e
      · exact first_zero h f hf
structure Zeros (d : Ck) : Prop where
  reach : reachE d (lineK d.f) = 0
  phis : phisE d.f = 0
  once : onceE d.f = 0
  uses : usesE d.f (usK d.f) = 0
theorem func_zero {d : Ck} (h : funcE d = 0) : Zeros d := by
  unfold funcE at h
  by_cases h1 : predsE d.f ≠ 0
  · rw [if_pos h1] at h; exact absurd h h1
  rw [if_neg h1] at h
  by_cases h2 : reachE d (lineK d.f) ≠ 0
  · rw [if_pos h2] at h; exact absurd h h2
  rw [if_neg h2] at h
  by_cases h3 : phisE d.f ≠ 0
  · rw [if_pos h3] at h; exact absurd h h3
  rw [if_neg h3] at h
  by_cases h4 : onceE d.f ≠ 0
  · rw [if_pos h4] at h; exact absurd h h4
  rw [if_neg h4] at h
  by_cases h5 : typesE d ≠ 0
  · rw [if_pos h5] at h; exact absurd h h5
  rw [if_neg h5] at h
  exact ⟨Classical.not_not.1 h2, Classical.not_not.1 h3, Classical.not_not.1 h4, h⟩
theorem made_of {fs : List S38} {mn : Int} (h : checkE fs mn = 0) {q : Nat} (hq : q < fs.length) {f : S38} (hf : f = fs.getD q z38) (hl : LimF f) (hb : f.f4.length ≤ 400000) : ∃ K, MadeH K f := by
  unfold checkE at h
  by_cases hfo : formedB fs mn = true
  case neg => rw [if_neg hfo] at h; cases h
  rw [if_pos hfo] at h
  have hmem : f ∈ fs := by rw [hf]; exact mem_getD z38 hq
  have hrd : rd_T38 fs (q : Int) = f := by rw [hf]; rfl
  have hz := func_zero (first_zero h f hmem)
  have hG : Good (dOf fs mn f) := by
    have := good_of hfo hq none 0 ⟨0, 0, none⟩ none 0 none 0 none 0
    rw [hrd] at this
    exact this
  have hF : Facts f := facts_of hG hb
  have hr := (reachE_iff (d := dOf fs mn f) hF).1 hz.reach
  have hr' : ∀ x, inB (waysL f).length x = true → Way (waysL f) (-1) x := hr
  have hg : goodB (waysL f) = true := ways_good hG
  have hwl : (waysL f).length = f.f4.length := by simp [waysL]
  have hn4 : f.f4.length ≤ 1000000000 := by omega
  have hs : 0 < f.f4.length := hG.some_
  have h2 : ∀ b ∈ f.f4, b.f2.f2.length ≤ 1000000000 := fun b hb => (hl.q b hb).2.2.1
  have hbk : ∀ b ∈ f.f4, blockB f b = true := hG.blocks
  have hav : ∀ v ∈ f.f3, v.f3.all (inB f.f3.length) = true := fun v hv => (hG.values v hv).1
  have hR : RangeH f := ⟨hG.params, hl.p, hl.v, hn4, hs, fun v hv => ⟨hl.a v hv, hav v hv⟩, fun b hb => by
    obtain ⟨q1, q2, q3, q4⟩ := hl.q b hb
    obtain ⟨p1, p2, p3, p4⟩ := block_phis (hbk b hb)
    refine ⟨⟨q1, q2, q3, q4⟩, p1, p2, ?_, p3, p4⟩
    rcases term_at (block_term (hbk b hb)) with e | e
    · omega
    · exact (inB_iff e).2⟩
  obtain ⟨K1, hK1⟩ := ranges_ev hR
  obtain ⟨K2, hK2⟩ := ev_all (g := fun i k => quernlaw9_met.f k f.f0 f.f1 f.f2 f.f3 f.f4 (i : Int) (-1)) (r := fun _ => true) f.f4.length (fun i hi => met_ev hg h2 hn4 (by simp [inB]; omega) ⟨fun _ => hr' _ (by rw [hwl]; simp [inB]; omega), fun _ => rfl⟩)
  obtain ⟨K3, hK3⟩ := ev_all2 (g := fun a p k => quernlaw9_there.f k f.f0 f.f1 f.f2 f.f3 f.f4 (plcF f) (a : Int) (p : Int)) (r := fun a p => seenB (usK f) (a : Int) (p : Int)) f.f4.length f.f3.length (fun a p ha hp => there_ev hF hr' hg h2 hn4 hs (by simp [inB]; omega) (by simp [inB]; omega))
  have hth : ∀ a p : Int, inB f.f3.length a = true → inB f.f4.length p = true → seenB (usK f) a p = true → thereB (max K1 (max K2 K3)) f a p := by
    intro a p ha hp hsn
    obtain ⟨a0, a1⟩ := inB_iff ha
    obtain ⟨p0, p1⟩ := inB_iff hp
    have := hK3 (max K1 (max K2 K3)) (by omega) a.toNat p.toNat (by omega) (by omega)
    rw [Int.toNat_of_nonneg a0, Int.toNat_of_nonneg p0, hsn] at this
    exact this
  have hub : usesB f (usK f) 0 f.f4 = true := by
    have := hz.uses
    unfold usesE at this
    by_cases e : usesB f (usK f) 0 f.f4 = true
    · exact e
    · rw [if_neg (by exact e)] at this; cases this
  have hblk : ∀ (i : Nat) (b : S46), f.f4[i]? = some b → inB f.f4.length (i : Int) = true ∧ b ∈ f.f4 ∧ blkUse f (usK f) (i : Int) b = true := by
    intro i b e
    have := uses_at f.f4 0 hub i b e
    rw [Int.zero_add] at this
    exact ⟨by have := (List.getElem?_eq_some_iff.1 e).1; simp [inB]; omega, List.mem_of_getElem? e, this⟩
  have hargs : ∀ v, inB f.f3.length v = true → (argsOf f v).all (inB f.f3.length) = true := fun v hv => args_in hG hv
  refine ⟨max K1 (max K2 K3), hK1 _ (by omega), hG.params, hl.p, hl.v, hn4, fun b hb => ?_, hl.a, fun i hi => hK2 _ (by omega) i hi, ?_, fun i b e v hv j hj => ?_, fun i b e k v ek a ha => ?_, fun i b e ht => ?_⟩
  · obtain ⟨q1, q2, q3, q4⟩ := hl.q b hb
    obtain ⟨p1, p2, p3, p4⟩ := block_phis (hbk b hb)
    exact ⟨p1, p2, q1, q2⟩
  · have := hz.once
    unfold onceE at this
    by_cases e : (onceT f).2.2.all (fun x => x == 1) = true
    · exact e
    · rw [if_neg (by exact e)] at this; cases this
  · obtain ⟨hi, hbm, hu⟩ := hblk i b e
    unfold blkUse at hu
    simp only [Bool.and_eq_true] at hu
    obtain ⟨p1, p2, p3, p4⟩ := block_phis (hbk b hbm)
    have hlen : (argsOf f v).length = b.f3.length := phis_len hz.phis hbm hv
    refine ⟨hlen, hth _ _ ?_ ?_ (pairs_at _ _ (phiUse_at _ hu.1.1 v hv) j hj)⟩
    · exact List.all_eq_true.1 (hargs v (List.all_eq_true.1 p1 v hv)) _ (mem_getD 0 hj)
    · exact List.all_eq_true.1 p3 _ (mem_getD 0 (by omega))
  · obtain ⟨hi, hbm, hu⟩ := hblk i b e
    unfold blkUse at hu
    simp only [Bool.and_eq_true] at hu
    obtain ⟨p1, p2, p3, p4⟩ := block_phis (hbk b hbm)
    have hvb := List.all_eq_true.1 p2 v (List.mem_of_getElem? ek)
    have hab := List.all_eq_true.1 (hargs v hvb) a ha
    have hus := List.all_eq_true.1 (bodyUse_at _ _ hu.1.2 k v ek) a ha
    rw [Int.zero_add] at hus
    have hus' : (if whereV f a = (i : Int) then decide (atV f a < (k : Int)) else seenB (usK f) a (i : Int)) = true := hus
    refine ⟨hab, fun hw => ?_, fun hw => ?_⟩
    · rw [if_pos hw] at hus'
      exact of_decide_eq_true hus'
    · rw [if_neg hw] at hus'
      exact hth _ _ hab hi hus'
  · obtain ⟨hi, hbm, hu⟩ := hblk i b e
    unfold blkUse termUse at hu
    simp only [Bool.and_eq_true, Bool.or_eq_true, decide_eq_true_eq] at hu
    rcases hu.2 with h0 | h0
    · omega
    · rcases term_at (block_term (hbk b hbm)) with e1 | e1
      · omega
      · exact hth _ _ e1 hi h0
end Go.Proofs.Ytgbeliajhccndaa
end
