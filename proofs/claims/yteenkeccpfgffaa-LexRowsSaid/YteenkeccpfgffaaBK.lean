/- A token's length, and a token alone (chapter 2; plain). -/
import Derived.Test.YteenkeccpfgffaaBJ
set_option linter.unusedVariables false
set_option linter.unusedSimpArgs false
namespace Go.Proofs.Yteenkeccpfgffaa
open Go.RowKit Go.Proofs.YteenkeccpfgffaaW.PrintWords Go.Proofs.YteenkeccpfgffaaW.PrintLast Go.Proofs.YteenkeccpfgffaaW.PrintMore

theorem wordFrom_cases (s : ByteArray) : ∀ (L : List ByteArray) (k : Nat), wordFrom s L k = 1 ∨ ∃ j, j < L.length ∧ wordFrom s L k = 10 + ((k + j : Nat) : Int) ∧ L[j]? = some s := by
  intro L
  induction L with
  | nil => intro k; exact .inl rfl
  | cons x r ih =>
    intro k
    rw [wordFrom]
    by_cases h : s.data.toList = x.data.toList
    · rw [if_pos h]
      refine .inr ⟨0, by simp, by simp, ?_⟩
      have : s = x := ByteArray.ext (Array.toList_inj.1 h)
      simp [this]
    · rw [if_neg h]
      rcases ih (k + 1) with h2 | ⟨j, h1, h2, h3⟩
      · exact .inl h2
      · exact .inr ⟨j + 1, by simpa using h1, by rw [h2, show k + 1 + j = k + (j + 1) by omega], by simpa using h3⟩
theorem wordK_cases (s : ByteArray) : wordK s = 1 ∨ ∃ j : Nat, j < 18 ∧ wordK s = 10 + (j : Int) ∧ wd j = s := by
  rcases wordFrom_cases s wordsL 0 with h | ⟨j, h1, h2, h3⟩
  · exact .inl h
  · refine .inr ⟨j, h1, by unfold wordK; simpa using h2, ?_⟩
    unfold wd
    rw [List.getD_eq_getElem?_getD, h3]
    rfl
theorem dec_more (v : Nat) (hv : 1 ≤ v) (d : Int) (h0 : 48 ≤ d) (h1 : d ≤ 57) : decL (10 * v + (d - 48).toNat) = decL v ++ [d] := by
  have e : ¬ 10 * v + (d - 48).toNat < 10 := by omega
  have e1 : (10 * v + (d - 48).toNat) / 10 = v := by omega
  have e2 : 48 + (((10 * v + (d - 48).toNat) % 10 : Nat) : Int) = d := by omega
  rw [decL, if_neg e, e1, e2]
theorem num_dec : ∀ (ds : List Int) (v : Nat) (r : Int), (∀ c ∈ ds, 48 ≤ c ∧ c ≤ 57) → 1 ≤ v → v ≤ 9223372036854775807 → numFrom (v : Int) ds = some r → ∃ r' : Nat, r = (r' : Int) ∧ decL r' = decL v ++ ds ∧ r' ≤ 9223372036854775807
  | [], v, r, _, hv, hm, h => by
    rw [numFrom] at h
    exact ⟨v, (Option.some.inj h).symm, by simp, hm⟩
  | c :: ds, v, r, hd, hv, hm, h => by
    have hc := hd c (List.mem_cons_self ..)
    rw [numFrom] at h
    split at h
    · cases h
    · rename_i hb
      have e : 10 * (v : Int) + (c - 48) = ((10 * v + (c - 48).toNat : Nat) : Int) := by omega
      rw [e] at h
      obtain ⟨r', h1, h2, h3⟩ := num_dec ds _ r (fun x hx => hd x (List.mem_cons_of_mem _ hx)) (by omega) (by omega) h
      exact ⟨r', h1, by rw [h2, dec_more v hv c hc.1 hc.2]; simp, h3⟩
theorem dec_one (c : Int) (h0 : 48 ≤ c) (h1 : c ≤ 57) : decL (c - 48).toNat = [c] := by
  rw [decL, if_pos (by omega)]
  congr 1
  omega
theorem num_dec0 {ds : List Int} {r : Int} (hd : ∀ c ∈ ds, 48 ≤ c ∧ c ≤ 57) (hne : ds ≠ []) (hz : ¬ (1 < ds.length ∧ rd ds 0 = 48)) (h : numFrom 0 ds = some r) : ∃ r' : Nat, r = (r' : Int) ∧ decL r' = ds ∧ r' ≤ 9223372036854775807 := by
  cases ds with
  | nil => exact absurd rfl hne
  | cons c ds =>
    have hc := hd c (List.mem_cons_self ..)
    rw [numFrom, if_neg (by omega)] at h
    have e : 10 * (0 : Int) + (c - 48) = (((c - 48).toNat : Nat) : Int) := by omega
    rw [e] at h
    cases ds with
    | nil =>
      rw [numFrom] at h
      exact ⟨(c - 48).toNat, (Option.some.inj h).symm, dec_one c hc.1 hc.2, by omega⟩
    | cons d ds =>
      have hc48 : c ≠ 48 := fun h2 => hz ⟨by simp, h2⟩
      obtain ⟨r', h1, h2, h3⟩ := num_dec (d :: ds) _ r (fun x hx => hd x (List.mem_cons_of_mem _ hx)) (by omega) (by omega) h
      exact ⟨r', h1, by rw [h2, dec_one c hc.1 hc.2]; rfl, h3⟩
theorem twoI_cases (c d : Int) : twoI c d = 0 ∨ (40 ≤ twoI c d ∧ twoI c d < 69 ∧ (spB (twoI c d)).size = 2) := by
  unfold twoI
  repeat' split
  all_goals first | exact .inl rfl | exact .inr ⟨by decide, by decide, rfl⟩
theorem oneI_cases (c : Int) : oneI c = 0 ∨ (40 ≤ oneI c ∧ oneI c < 69 ∧ (spB (oneI c)).size = 1) := by
  by_cases h0 : c ∈ [40, 41, 123, 125, 91, 93, 44, 59, 61, 33, 60, 62, 43, 45, 42, 47, 37, 38, 124, 94]
  · simp only [List.mem_cons, List.not_mem_nil, or_false] at h0
    rcases h0 with rfl | rfl | rfl | rfl | rfl | rfl | rfl | rfl | rfl | rfl | rfl | rfl | rfl | rfl | rfl | rfl | rfl | rfl | rfl | rfl
    all_goals exact .inr ⟨by decide, by decide, rfl⟩
  · simp only [List.mem_cons, List.not_mem_nil, or_false, not_or] at h0
    exact .inl (by simp [oneI, h0])
theorem tok_len {u : List Int} {x : Tok} {n : Nat} (hne : u ≠ []) (hb : byteRange u) (h : tokS u = (x, 0, n)) : TokGood x ∧ x.name.size ≤ 64 ∧ tokLen x = n ∧ x.at_ = 0 := by
  have hul : 0 < u.length := List.length_pos_iff.2 hne
  obtain ⟨hn, hu⟩ := tokS_ok hne h
  unfold tokS tokAt at h
  split at h
  · unfold nameAt at h
    simp only [List.drop_zero] at h
    split at h
    · obtain ⟨_, h2, _⟩ := tri h
      simp at h2
    · obtain ⟨h1, _, h3⟩ := tri h
      rw [Nat.zero_add] at h3
      rename_i h64
      have hsz : (strOfNums (u.take (strL true u))).size = n := by rw [size_nums', List.length_take, h3]; omega
      generalize strOfNums (u.take (strL true u)) = s at *
      unfold nameTok at h1
      rcases wordK_cases s with hk | ⟨j, hj, hk, hw⟩
      · rw [if_pos hk] at h1
        subst h1
        exact ⟨.inl rfl, by simp only; omega, hsz, rfl⟩
      · rw [if_neg (by omega)] at h1
        subst h1
        rw [hk]
        refine ⟨.inr (.inr (.inl ⟨by simp only; omega, by simp only; omega⟩)), (show (0 : Nat) ≤ 64 by omega), ?_, rfl⟩
        unfold tokLen
        rw [if_neg (by simp only; omega), if_neg (by simp only; omega)]
        unfold spB
        simp only
        rw [if_pos (by omega), show (10 + (j : Int) - 10).toNat = j by omega, hw, hsz]
  · split at h
    · unfold numberAt at h
      simp only [List.drop_zero] at h
      split at h
      · obtain ⟨_, h2, _⟩ := tri h
        simp at h2
      · rename_i h0
        cases hN : numFrom 0 (u.take (strL false u)) with
        | none =>
          rw [hN] at h
          obtain ⟨_, h2, _⟩ := tri h
          simp at h2
        | some v =>
          rw [hN] at h
          obtain ⟨h1, _, h3⟩ := tri h
          rw [Nat.zero_add] at h3
          have hdig := tw_digits u
          rw [← take_tw] at hdig
          rw [h3] at hdig hN h0
          have hln : (u.take n).length = n := by rw [List.length_take]; omega
          have hr0 : rd (u.take n) 0 = rd u ((0 : Nat) : Int) := rd_take u n 0 hn
          obtain ⟨r', e1, e2, e3⟩ := num_dec0 hdig (by intro h9; rw [h9] at hln; simp at hln; omega) (by rw [hln, hr0]; exact h0) hN
          subst h1
          refine ⟨.inr (.inl ⟨rfl, by simp only; omega, by simp only; omega⟩), (show (0 : Nat) ≤ 64 by omega), ?_, rfl⟩
          unfold tokLen
          rw [if_neg (by simp), if_pos rfl, e1, Int.toNat_natCast, e2, hln]
    · split at h
      · unfold signAt at h
        simp only [List.drop_zero] at h
        split at h
        · rename_i ht
          obtain ⟨h1, _, h3⟩ := tri h
          obtain ⟨c, d, r, rfl⟩ : ∃ c d r, u = c :: d :: r := by
            match u, ht.1 with
            | c :: d :: r, _ => exact ⟨c, d, r, rfl⟩
            | [c], hl => simp at hl
          have e : (c :: d :: r).take 2 = [c, d] := rfl
          rw [e, twoK_eq (c := c) (d := d) (hb 0) (hb 1)] at ht h1
          rcases twoI_cases c d with h5 | ⟨h5, h6, h7⟩
          · exact absurd h5 ht.2
          · subst h1
            refine ⟨.inr (.inr (.inr ⟨h5, h6⟩)), (show (0 : Nat) ≤ 64 by omega), ?_, rfl⟩
            unfold tokLen
            rw [if_neg (by simp only; omega), if_neg (by simp only; omega)]
            simp only [h7]
            omega
        · split at h
          · obtain ⟨_, h2, _⟩ := tri h
            simp at h2
          · rename_i ho
            obtain ⟨h1, _, h3⟩ := tri h
            rw [oneK_eq] at ho h1
            rcases oneI_cases (rd u ((0 : Nat) : Int)) with h5 | ⟨h5, h6, h7⟩
            · exact absurd h5 ho
            · subst h1
              refine ⟨.inr (.inr (.inr ⟨h5, h6⟩)), (show (0 : Nat) ≤ 64 by omega), ?_, rfl⟩
              unfold tokLen
              rw [if_neg (by simp only; omega), if_neg (by simp only; omega)]
              simp only [h7]
              omega
      · obtain ⟨_, h2, _⟩ := tri h
        simp at h2
/-- A token stands alone, at its place. -/
def PlacedTok (T : List Int) (place err : Int) (lo : Nat) (x : Tok) (p : Nat) : Prop :=
  x.at_ = (p : Int) ∧ lo ≤ p ∧ TokGood x ∧ x.name.size ≤ 64 ∧ 0 < tokLen x ∧ p + tokLen x ≤ T.length ∧ (err ≠ 0 → (p : Int) + tokLen x ≤ place) ∧ lexAll ((T.drop p).take (tokLen x)) = ([⟨x.kind, 0, x.value, x.name⟩], 0, 0)
def Placed (T : List Int) (place err : Int) : Nat → List Tok → Prop
  | _, [] => True
  | lo, x :: r => ∃ p : Nat, PlacedTok T place err lo x p ∧ Placed T place err (p + tokLen x) r
theorem tokGood_shift {x : Tok} (h : TokGood x) (d : Int) : TokGood (x.shift d) := h
theorem tokLen_shift (x : Tok) (d : Int) : tokLen (x.shift d) = tokLen x := rfl
theorem placed_all (T : List Int) (hbT : byteRange T) : ∀ (m o : Nat), T.length - o ≤ m → o ≤ T.length → Placed T (lex o (T.drop o)).2.1 (lex o (T.drop o)).2.2 o (lex o (T.drop o)).1 := by
  intro m
  induction m with
  | zero =>
    intro o h1 h2
    rw [List.drop_of_length_le (by omega), lx_end (o := o) (k := 0) (t := []) rfl (by simp)]
    trivial
  | succ m ih =>
    intro o h1 h2
    rcases lx_form (T.drop o) (hbT.drop o) with ⟨k, h3, hk⟩ | ⟨k, h3, hk⟩ | ⟨g, u, x, e, n, ht, hg, hne, hbu, hsk, hS, he⟩ | ⟨g, u, x, n, ht, hg, hne, hbu, hsk, hS, hn, hu⟩
    · rw [lx_bad h3]; trivial
    · rw [lx_end h3 hk]; trivial
    · rw [ht, lx_fail hg hne hsk hS he]; trivial
    · have e1 : g ++ u = g ++ (u.take n ++ u.drop n) := by rw [← cut_u]
      have hlen : T.length - o = g.length + u.length := by rw [← List.length_drop, ht, List.length_append]
      have hd : u.drop n = T.drop (o + g.length + n) := by
        have : T.drop (o + (g.length + n)) = (T.drop o).drop (g.length + n) := by rw [List.drop_drop]
        rw [Nat.add_assoc, this, ht, ← List.drop_drop, List.drop_left]
      have hdu : T.drop (o + g.length) = u := by
        have : T.drop (o + g.length) = (T.drop o).drop g.length := by rw [List.drop_drop]
        rw [this, ht, List.drop_left]
      obtain ⟨a1, a2, a3, a4⟩ := tok_len hne hbu hS
      have hi := ih (o + g.length + n) (by omega) (by omega)
      rw [ht, e1, lx_step hg hne hbu hsk hS after_drop]
      rw [← hd] at hi
      refine ⟨o + g.length, ⟨by simp [Tok.shift, a4], by omega, a1, a2, by rw [tokLen_shift, a3]; exact hn, by rw [tokLen_shift, a3]; omega, ?_, ?_⟩, by rw [tokLen_shift, a3]; exact hi⟩
      · intro he
        obtain ⟨q, hq, _⟩ := lex_take _ (o + g.length + n) (u.drop n) (Nat.le_refl _) (hbu.drop n) he
        rw [tokLen_shift, a3]
        show ((o + g.length : Nat) : Int) + (n : Int) ≤ (lex (o + g.length + n) (u.drop n)).2.1
        rw [hq]
        omega
      · rw [tokLen_shift, a3, hdu, lexAll_lex]
        have := lx_step (o := 0) (s := []) Blank.nil hne hbu hsk hS (.inl rfl)
        rw [List.nil_append, List.append_nil] at this
        rw [this, lx_end (k := 0) (t := []) rfl (by simp)]
        simp [Tok.shift, a4]
theorem lex_placed {T : List Int} (hbT : byteRange T) {out : List Tok} {place err : Int} (h : lexAll T = (out, place, err)) : Placed T place err 0 out := by
  have := placed_all T hbT _ 0 (Nat.le_refl _) (by omega)
  rw [List.drop_zero, ← lexAll_lex, h] at this
  exact this
theorem placed_at {T : List Int} {place err : Int} : ∀ (out : List Tok) (lo : Nat), Placed T place err lo out → ∀ j, j < out.length → ∃ p lo' : Nat, PlacedTok T place err lo' (out.getD j Tok.nil) p ∧ (j = 0 → lo' = lo) ∧ (∀ i, j = i + 1 → ∃ q : Nat, (out.getD i Tok.nil).at_ = (q : Int) ∧ lo' = q + tokLen (out.getD i Tok.nil))
  | [], _, _, j, hj => by simp at hj
  | x :: r, lo, h, j, hj => by
    obtain ⟨p, hp, hr⟩ := h
    cases j with
    | zero => exact ⟨p, lo, hp, fun _ => rfl, fun i hi => by omega⟩
    | succ j =>
      obtain ⟨p2, lo2, h1, h2, h3⟩ := placed_at r _ hr j (by simpa using hj)
      refine ⟨p2, lo2, h1, fun h => by omega, fun i hi => ?_⟩
      obtain rfl : i = j := by omega
      cases i with
      | zero => exact ⟨p, hp.1, h2 rfl⟩
      | succ i => exact h3 i rfl
end Go.Proofs.Yteenkeccpfgffaa
