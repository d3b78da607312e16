/- LexFresh, plain (chapter 2). -/
import Derived.Test.YteenkeccpfgffaaCD
set_option linter.unusedVariables false
set_option linter.unusedSimpArgs false
namespace Go.Proofs.Yteenkeccpfgffaa
open Go.RowKit Go.Proofs.YteenkeccpfgffaaW.PrintWords Go.Proofs.YteenkeccpfgffaaW.PrintLast Go.Proofs.YteenkeccpfgffaaW.PrintMore

theorem lexFrom_len (l : List Int) : ∀ (k p : Nat) (acc : List Tok), (lexFrom l k p acc).1.length ≤ acc.length + k
  | 0, p, acc => by simp [lexFrom]
  | k + 1, p, acc => by
    rw [lexFrom]
    repeat' split
    all_goals (first | (simp; done) | (simp only []; omega) | (refine Nat.le_trans (lexFrom_len l k _ _) ?_; simp; omega))
theorem lexAll_len {l : List Int} {out : List Tok} {place err : Int} (h : lexAll l = (out, place, err)) : out.length ≤ l.length + 1 := by
  have := lexFrom_len l (l.length + 1) 0 []
  have e : lexFrom l (l.length + 1) 0 [] = (out, place, err) := h
  rw [e] at this
  simpa using this
theorem kTok_KM (base : Nat) (w : World) (x : Tok) (cs : List Value) (h : kTok.K w x cs) : kTok.M w base (fun _ => False) x cs := by
  rw [kTok_open h]
  exact kTok_mkM w base _ x
def kTx : Kd (List Int) := Kd.slice 5 (Kd.int .u8)
theorem tx_at {w : World} {A : Option Addr} {n : Nat} {ts : List (List Int)} (h : kTx.C w A n ts) (k : Nat) (hk : k < n) :
    ∃ ad B c, A = some ad ∧ w.cell? (ad.add k) = some (.slice B (ts.getD k []).length c) ∧ (ts.getD k []).length ≤ c ∧ ReadsInt w .u8 B (ts.getD k []).length (ts.getD k []) := by
  obtain ⟨ad, cs, e, _, hK, hc⟩ := Kd.C_get h [] (k : Int) (by omega) (by omega)
  rw [Int.toNat_natCast] at hK hc
  obtain ⟨B, c, rfl, h1, h2⟩ := hK
  have := hc 0 _ rfl
  rw [show kTx.sz = 1 from rfl, Nat.mul_one, Nat.add_zero] at this
  exact ⟨ad, B, c, e, this, h1, Kd.reads_of_C (d := (0 : Int)) h2⟩
/-- What is told of text k. -/
def toks (ts : List (List Int)) (k : Nat) : List Tok := (lexAll (ts.getD k [])).1
/-- The lists that were answered, and what they were: m of each; list p is text (p / 2)'s. -/
structure FP (w wr : World) (ts : List (List Int)) (hs ws : List Hd) (vl vw : Value) : Prop where
  hd : kH.R 28 wr w.heap.size Tt vl hs
  hw : kH.R 28 wr w.heap.size Tt vw ws
  ne : NeRow vl vw
  len : hs.length = ws.length
  ent : ∀ p, p < hs.length → kTok.R 33 wr w.heap.size Tt (encH (hs.getD p zH)) (toks ts (p / 2)) ∧ kTok.R 33 wr w.heap.size Tt (encH (ws.getD p zH)) (toks ts (p / 2)) ∧ (toks ts (p / 2)).length ≤ 100000
  ap : Apart hs
  bel : Below w.heap.size w wr
section
variable {w wr w' : World} {ts : List (List Int)} {hs ws : List Hd} {vl vw vl1 vw1 : Value} {x y : Hd}
theorem FP.start : FP w w ts [] [] (.slice none 0 0) (.slice none 0 0) :=
  ⟨Kd.R_nil _ _ _ _ _, Kd.R_nil _ _ _ _ _, fun k hk => by simp [Value.ownBlock] at hk, rfl, fun p hp => absurd hp (Nat.not_lt_zero p), fun p q hp => absurd hp (Nat.not_lt_zero p), Below.refl _ _⟩
theorem FP.below (h : FP w wr ts hs ws vl vw) (hB : Below wr.heap.size wr w') : FP w w' ts hs ws vl vw :=
  ⟨Kd.R_below h.hd hB, Kd.R_below h.hw hB, h.ne, h.len, fun p hp => ⟨Kd.R_below (h.ent p hp).1 hB, Kd.R_below (h.ent p hp).2.1 hB, (h.ent p hp).2.2⟩, h.ap, h.bel.trans (hB.mono h.bel.size)⟩
theorem lt_of_row {α : Type} {d : Kd α} {e base : Nat} {w : World} {ok : Nat → Prop} {v : Value} {xs : List α} (h : d.R e w base ok v xs) {k : Nat} (hk : v.ownBlock = some k) : k < w.heap.size := by
  obtain ⟨_, c, hc⟩ := row_block h hk
  exact blk_lt hc
/-- A block that none of them has is written. -/
theorem FP.beside {row : Option Nat} (h : FP w wr ts hs ws vl vw) (hg : wr.grownBy w' row) (hr : ∀ k, row = some k → w.heap.size ≤ k ∧ (∃ cs, wr.heap[k]? = some (.cells cs 33 (0, 0))) ∧ ∀ p, p < hs.length → (encH (hs.getD p zH)).ownBlock ≠ some k ∧ (encH (ws.getD p zH)).ownBlock ≠ some k) : FP w w' ts hs ws vl vw := by
  have hk : ∀ k, k < wr.heap.size → row ≠ some k → w'.heap[k]? = wr.heap[k]? := fun k hk hne => hg.block k hk (Ne.symm hne)
  have hH : ∀ {v : Value} {ys : List Hd}, kH.R 28 wr w.heap.size Tt v ys → kH.R 28 w' w.heap.size Tt v ys := fun hv => R_flat flatH hv (fun k hk' => hk k (lt_of_row hv hk') (fun e => by
    obtain ⟨_, c, hc⟩ := row_block hv hk'
    obtain ⟨_, ⟨cs, hc2⟩, _⟩ := hr k e
    exact absurd (blk_diff hc hc2) (by decide))) hv.1
  refine ⟨hH h.hd, hH h.hw, h.ne, h.len, fun p hp => ?_, h.ap, h.bel.grown hg h.bel.size (fun k hk => (hr k hk).1)⟩
  obtain ⟨a, b, c⟩ := h.ent p hp
  exact ⟨R_flat flatTok a (fun k hk' => hk k (lt_of_row a hk') (fun e => ((hr k e).2.2 p hp).1 hk')) a.1, R_flat flatTok b (fun k hk' => hk k (lt_of_row b hk') (fun e => ((hr k e).2.2 p hp).2 hk')) b.1, c⟩
/-- A list is put to the others. (S: where the new list's block begins.) -/
structure FQ (w wr : World) (ts : List (List Int)) (hs ws : List Hd) (vl vw : Value) (x : Hd) (m : Nat) : Prop where
  hd : kH.R 28 wr w.heap.size Tt vl (hs ++ [x])
  hw : kH.R 28 wr w.heap.size Tt vw ws
  ne : NeRow vl vw
  len : hs.length = ws.length
  ent : ∀ p, p < hs.length → kTok.R 33 wr w.heap.size Tt (encH (hs.getD p zH)) (toks ts (p / 2)) ∧ kTok.R 33 wr w.heap.size Tt (encH (ws.getD p zH)) (toks ts (p / 2)) ∧ (toks ts (p / 2)).length ≤ 100000
  new : kTok.R 33 wr w.heap.size Tt (encH x) (toks ts m) ∧ (toks ts m).length ≤ 100000
  ap : Apart hs
  ax : ∀ p, p < hs.length → NeRow (encH (hs.getD p zH)) (encH x)
  bel : Below w.heap.size w wr
theorem FP.push {m : Nat} (h : FP w wr ts hs ws vl vw) (hx : kTok.R 33 wr w.heap.size Tt (encH x) (toks ts m)) (hl : (toks ts m).length ≤ 100000) (hax : ∀ p, p < hs.length → NeRow (encH (hs.getD p zH)) (encH x))
    (hR : kH.R 28 w' w.heap.size Tt vl1 (hs ++ [x])) (hg : wr.grownBy w' vl.ownBlock) (hat : vl1.ownBlock = vl.ownBlock ∨ ∃ b, vl1.ownBlock = some b ∧ wr.heap.size ≤ b) : FQ w w' ts hs ws vl1 vw x m := by
  have hk : ∀ {v : Value} {xs : List Tok}, kTok.R 33 wr w.heap.size Tt v xs → kTok.R 33 w' w.heap.size Tt v xs := fun hv => R_flat flatTok hv (fun k hk' => hg.block k (lt_of_row hv hk') (fun e => row_ne_row h.hd hv (by decide) k e.symm hk')) hv.1
  refine ⟨hR, R_flat flatH h.hw (fun k hk' => hg.block k (lt_of_row h.hw hk') (fun e => h.ne k e.symm hk')) h.hw.1, fun k hk' hk2 => ?_, h.len, fun p hp => ⟨hk (h.ent p hp).1, hk (h.ent p hp).2.1, (h.ent p hp).2.2⟩, ⟨hk hx, hl⟩, h.ap, hax, h.bel.grown hg h.bel.size (fun k hk' => (row_block h.hd hk').1)⟩
  rcases hat with e | ⟨b, e, hb⟩
  · exact h.ne k (e ▸ hk') hk2
  · rw [e] at hk'
    injection hk' with hk'
    have := lt_of_row h.hw hk2
    omega
theorem FQ.below {m : Nat} (h : FQ w wr ts hs ws vl vw x m) (hB : Below wr.heap.size wr w') : FQ w w' ts hs ws vl vw x m :=
  ⟨Kd.R_below h.hd hB, Kd.R_below h.hw hB, h.ne, h.len, fun p hp => ⟨Kd.R_below (h.ent p hp).1 hB, Kd.R_below (h.ent p hp).2.1 hB, (h.ent p hp).2.2⟩, ⟨Kd.R_below h.new.1 hB, h.new.2⟩, h.ap, h.ax, h.bel.trans (hB.mono h.bel.size)⟩
theorem getD_end {α : Type} {l : List α} {x d : α} {j : Nat} (h : j < (l ++ [x]).length) : (j < l.length ∧ (l ++ [x]).getD j d = l.getD j d) ∨ (j = l.length ∧ (l ++ [x]).getD j d = x) := by
  simp only [List.length_append, List.length_singleton] at h
  rcases Nat.lt_or_ge j l.length with h2 | h2
  · exact .inl ⟨h2, by rw [List.getD_eq_getElem?_getD, List.getD_eq_getElem?_getD, List.getElem?_append_left h2]⟩
  · obtain rfl : j = l.length := by omega
    exact .inr ⟨rfl, by simp [List.getD_eq_getElem?_getD]⟩
theorem FQ.push {m : Nat} (h : FQ w wr ts hs ws vl vw x m) (hm : m = hs.length / 2) (hy : kTok.R 33 wr w.heap.size Tt (encH y) (toks ts m))
    (hR : kH.R 28 w' w.heap.size Tt vw1 (ws ++ [y])) (hg : wr.grownBy w' vw.ownBlock) (hat : vw1.ownBlock = vw.ownBlock ∨ ∃ b, vw1.ownBlock = some b ∧ wr.heap.size ≤ b) : FP w w' ts (hs ++ [x]) (ws ++ [y]) vl vw1 := by
  have hk : ∀ {v : Value} {xs : List Tok}, kTok.R 33 wr w.heap.size Tt v xs → kTok.R 33 w' w.heap.size Tt v xs := fun hv => R_flat flatTok hv (fun k hk' => hg.block k (lt_of_row hv hk') (fun e => row_ne_row h.hw hv (by decide) k e.symm hk')) hv.1
  have hln := h.len
  refine ⟨R_flat flatH h.hd (fun k hk' => hg.block k (lt_of_row h.hd hk') (fun e => h.ne k hk' e.symm)) h.hd.1, hR, fun k hk' hk2 => ?_, by simp [hln], fun p hp => ?_, fun p q hp hq hne => ?_, h.bel.grown hg h.bel.size (fun k hk' => (row_block h.hw hk').1)⟩
  · rcases hat with e | ⟨b, e, hb⟩
    · exact h.ne k hk' (e ▸ hk2)
    · rw [e] at hk2
      injection hk2 with hk2
      have := lt_of_row h.hd hk'
      omega
  · rcases getD_end (d := zH) hp with ⟨a1, a2⟩ | ⟨a1, a2⟩ <;> rcases getD_end (l := ws) (x := y) (d := zH) (j := p) (by simp at hp ⊢; omega) with ⟨b1, b2⟩ | ⟨b1, b2⟩ <;> (try omega) <;> rw [a2, b2]
    · exact ⟨hk (h.ent p a1).1, hk (h.ent p a1).2.1, (h.ent p a1).2.2⟩
    · rw [a1, ← hm]
      exact ⟨hk h.new.1, hk hy, h.new.2⟩
  · rcases getD_end (d := zH) hp with ⟨a1, a2⟩ | ⟨a1, a2⟩ <;> rcases getD_end (d := zH) hq with ⟨b1, b2⟩ | ⟨b1, b2⟩ <;> (try omega) <;> rw [a2, b2]
    · exact h.ap p q a1 b1 hne
    · exact h.ax p a1
    · exact fun k h1 h2 => h.ax q b1 k h2 h1
theorem FP.toAP (h : FP w wr ts hs ws vl vw) : AP w wr hs vl 0 := ⟨h.hd, fun p hp => ⟨_, (h.ent p hp).2.2, (h.ent p hp).1, fun hlt => absurd hlt (Nat.not_lt_zero p)⟩, h.bel⟩
end
end Go.Proofs.Yteenkeccpfgffaa
