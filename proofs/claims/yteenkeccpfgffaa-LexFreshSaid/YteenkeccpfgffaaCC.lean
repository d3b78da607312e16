/- The states of apart's loops (chapter 2). -/
import Derived.Test.YteenkeccpfgffaaCB
set_option linter.unusedVariables false
set_option linter.unusedSimpArgs false
namespace Go.Proofs.Yteenkeccpfgffaa
open Go.RowKit Go.Proofs.YteenkeccpfgffaaW.PrintWords Go.Proofs.YteenkeccpfgffaaW.PrintLast Go.Proofs.YteenkeccpfgffaaW.PrintMore

abbrev Tt : Nat → Prop := fun _ => True
def Apart (hs : List Hd) : Prop := ∀ p q, p < hs.length → q < hs.length → p ≠ q → NeRow (encH (hs.getD p zH)) (encH (hs.getD q zH))
/-- The lists, i of them marked. -/
structure AP (w0 wr : World) (hs : List Hd) (vl : Value) (i : Nat) : Prop where
  hd : kH.R 28 wr w0.heap.size Tt vl hs
  ent : ∀ p, p < hs.length → ∃ xs : List Tok, xs.length ≤ 100000 ∧ kTok.R 33 wr w0.heap.size Tt (encH (hs.getD p zH)) xs ∧ (p < i → xs = marks p xs.length)
  bel : Below w0.heap.size w0 wr
section
variable {w0 wr w' : World} {hs fs : List Hd} {vl vf vf1 : Value} {i j n : Nat}
theorem AP.put {xs : List Tok} (h : AP w0 wr hs vl i) (hd : Apart hs) (hi : i < hs.length) (hg : wr.grownBy w' (encH (hs.getD i zH)).ownBlock) (hR : kTok.R 33 w' w0.heap.size Tt (encH (hs.getD i zH)) xs) (hl : xs.length ≤ 100000) : AP w0 w' hs vl i := by
  obtain ⟨ys, _, hy, _⟩ := h.ent i hi
  have hb : ∀ k, k < wr.heap.size → (encH (hs.getD i zH)).ownBlock ≠ some k → w'.heap[k]? = wr.heap[k]? := fun k hk hne => hg.block k hk (Ne.symm hne)
  refine ⟨R_flat flatH h.hd (fun k hk => hb k ?_ ?_) h.hd.1, fun p hp => ?_, h.bel.grown hg h.bel.size (fun k hk => (row_block hy hk).1)⟩
  · obtain ⟨_, c, hc⟩ := row_block h.hd hk; exact blk_lt hc
  · exact fun e => row_ne_row h.hd hy (by decide) k hk e
  · by_cases e : p = i
    · subst e
      exact ⟨xs, hl, hR, fun hlt => absurd hlt (Nat.lt_irrefl _)⟩
    · obtain ⟨zs, z1, z2, z3⟩ := h.ent p hp
      refine ⟨zs, z1, R_flat flatTok z2 (fun k hk => hb k ?_ (fun e2 => hd p i hp hi e k hk e2)) z2.1, z3⟩
      obtain ⟨_, c, hc⟩ := row_block z2 hk; exact blk_lt hc
theorem AP.next {xs : List Tok} (h : AP w0 wr hs vl i) (hi : i < hs.length) (hR : kTok.R 33 wr w0.heap.size Tt (encH (hs.getD i zH)) xs) (hl : xs.length ≤ 100000) (hm : ∀ q, q < xs.length → xs.getD q Tok.nil = mkT i q) : AP w0 wr hs vl (i + 1) := by
  refine ⟨h.hd, fun p hp => ?_, h.bel⟩
  by_cases e : p = i
  · subst e
    exact ⟨xs, hl, hR, fun _ => marks_of rfl hm⟩
  · obtain ⟨zs, z1, z2, z3⟩ := h.ent p hp
    exact ⟨zs, z1, z2, fun hlt => z3 (by omega)⟩
end
/-- The lists marked, i of them grown; r is the first that is as it was. -/
structure BP (w0 wr : World) (S Z : Nat) (hs fs : List Hd) (vl vf : Value) (i r : Nat) : Prop where
  hd : kH.R 28 wr w0.heap.size Tt vl hs
  hf : kH.R 28 wr w0.heap.size Tt vf fs
  ne : NeRow vl vf
  fl : fs.length = i
  rest : ∀ p, r ≤ p → p < hs.length → (hs.getD p zH).n ≤ 100000 ∧ kTok.R 33 wr w0.heap.size Tt (encH (hs.getD p zH)) (marks p (hs.getD p zH).n)
  own : ∀ p, p < hs.length → ∀ k, (encH (hs.getD p zH)).ownBlock = some k → k < S ∧ ∃ cs, wr.heap[k]? = some (.cells cs 33 (0, 0))
  form : ∀ p, p < hs.length → 0 < (hs.getD p zH).n → ∃ g, (hs.getD p zH).a = some ⟨g, 0, none⟩
  done : ∀ p, p < i → (hs.getD p zH).n ≤ 100000 ∧ kTok.C wr (hs.getD p zH).a (hs.getD p zH).n (marks p (hs.getD p zH).n) ∧ (fs.getD p zH).n = (hs.getD p zH).n + 60 ∧
    ∃ g cs, (fs.getD p zH).a = some ⟨g, 0, none⟩ ∧ wr.heap[g]? = some (.cells cs 33 (0, 0)) ∧ g < Z ∧ ((encH (hs.getD p zH)).ownBlock = some g ∨ S ≤ g) ∧ kTok.C wr (fs.getD p zH).a (fs.getD p zH).n (marks p (hs.getD p zH).n ++ List.replicate 60 (fm p))
  sz : S ≤ Z
  zz : Z ≤ wr.heap.size
  bel : Below w0.heap.size w0 wr
/-- The list that is being grown. -/
structure GP (w0 wr : World) (Z : Nat) (hs : List Hd) (g : Hd) (i k : Nat) : Prop where
  cur : kTok.R 33 wr w0.heap.size Tt (encH g) (marks i (hs.getD i zH).n ++ List.replicate k (fm i))
  at_ : (encH g).ownBlock = (encH (hs.getD i zH)).ownBlock ∨ ∃ b, (encH g).ownBlock = some b ∧ Z ≤ b
  was : kTok.C wr (hs.getD i zH).a (hs.getD i zH).n (marks i (hs.getD i zH).n)
section
variable {w0 wr w' : World} {S Z : Nat} {hs fs : List Hd} {vl vf vf1 : Value} {i j n r k : Nat} {g g1 : Hd}
theorem BP.of (h : AP w0 wr hs vl hs.length) : BP w0 wr wr.heap.size wr.heap.size hs [] vl (.slice none 0 0) 0 0 := by
  refine ⟨h.hd, Kd.R_nil _ _ _ _ _, fun k _ hk => by simp [Value.ownBlock] at hk, rfl, fun p _ hp => ?_, fun p hp k hk => ?_, fun p hp hn => ?_, fun p hp => absurd hp (Nat.not_lt_zero p), Nat.le_refl _, Nat.le_refl _, h.bel⟩
  · obtain ⟨xs, x1, x2, x3⟩ := h.ent p hp
    have e1 : (hs.getD p zH).n = xs.length := (Kd.R_reads' x2).1
    have e2 := x3 hp
    rw [e1]
    rw [e2] at x2
    exact ⟨x1, x2⟩
  · obtain ⟨xs, x1, x2, x3⟩ := h.ent p hp
    obtain ⟨_, c, hc⟩ := row_block x2 hk
    exact ⟨blk_lt hc, c, hc⟩
  · obtain ⟨xs, x1, x2, x3⟩ := h.ent p hp
    have e1 : (hs.getD p zH).n = xs.length := (Kd.R_reads' x2).1
    obtain ⟨g, cap, e, _⟩ := Kd.R_form x2 (by omega)
    have : (hs.getD p zH).a = some ⟨g, 0, none⟩ := by unfold encH at e; injection e
    exact ⟨g, this⟩
theorem own_of_a {h : Hd} {g : Nat} (e : h.a = some ⟨g, 0, none⟩) : (encH h).ownBlock = some g := by unfold encH; rw [e]; simp [Value.ownBlock]
/-- A block of tokens is written, or a new one: all that is not of it is as it was. -/
theorem BP.move {row : Option Nat} (h : BP w0 wr S Z hs fs vl vf i r) (hg : wr.grownBy w' row) (hb : ∀ k, row = some k → w0.heap.size ≤ k)
    (ht : ∀ k cs, row = some k → wr.heap[k]? ≠ some (.cells cs 28 (0, 0))) (hn : ∀ k, row = some k → (∃ cs, w'.heap[k]? = some (.cells cs 33 (0, 0)))) (hr : ∀ p, r ≤ p → p < hs.length → ∀ k, (encH (hs.getD p zH)).ownBlock = some k → row ≠ some k)
    (hi : i ≤ hs.length) (hd : ∀ p, p < i → (∀ k, (encH (hs.getD p zH)).ownBlock = some k → row ≠ some k) ∧ (∀ k, S ≤ k → k < Z → row ≠ some k)) : BP w0 w' S Z hs fs vl vf i r := by
  have hk : ∀ k, k < wr.heap.size → row ≠ some k → w'.heap[k]? = wr.heap[k]? := fun k hk hne => hg.block k hk (Ne.symm hne)
  have hH : ∀ {v : Value} {ys : List Hd}, kH.R 28 wr w0.heap.size Tt v ys → kH.R 28 w' w0.heap.size Tt v ys := fun hv => R_flat flatH hv (fun k hk' => by
    obtain ⟨_, c, hc⟩ := row_block hv hk'
    exact hk k (blk_lt hc) (fun e => ht k c e hc)) hv.1
  refine ⟨hH h.hd, hH h.hf, h.ne, h.fl, fun p hp hlt => ?_, fun p hp k hk' => ?_, h.form, fun p hp => ?_, h.sz, Nat.le_trans h.zz hg.size, h.bel.grown hg h.bel.size hb⟩
  · obtain ⟨a, b⟩ := h.rest p hp hlt
    refine ⟨a, R_flat flatTok b (fun k hk' => ?_) b.1⟩
    obtain ⟨_, c, hc⟩ := row_block b hk'
    exact hk k (blk_lt hc) (hr p hp hlt k hk')
  · obtain ⟨a, cs, hc⟩ := h.own p hp k hk'
    refine ⟨a, ?_⟩
    by_cases e : row = some k
    · exact hn k e
    · exact ⟨cs, (hk k (blk_lt hc) e).trans hc⟩
  · obtain ⟨a, b, c, g, cs, e1, e2, e3, e4, e5⟩ := h.done p hp
    have hgk : w'.heap[g]? = wr.heap[g]? := hk g (blk_lt e2) (by
      rcases e4 with e4 | e4
      · exact (hd p hp).1 g e4
      · exact (hd p hp).2 g e4 e3)
    refine ⟨a, ?_, c, g, cs, e1, hgk.trans e2, e3, e4, by rw [e1] at e5 ⊢; exact C_blk e5 hgk⟩
    rcases Nat.eq_zero_or_pos (hs.getD p zH).n with h0 | hp0
    · rw [h0] at b ⊢
      exact ⟨b.1, b.2.1, fun h => absurd h (Nat.lt_irrefl 0)⟩
    · obtain ⟨g', e'⟩ := h.form p (by omega) hp0
      obtain ⟨_, cs', hc'⟩ := h.own p (by omega) g' (own_of_a e')
      rw [e'] at b ⊢
      exact C_blk b (hk g' (blk_lt hc') ((hd p hp).1 g' (own_of_a e')))
theorem GP.start (h : BP w0 wr S Z hs fs vl vf i i) (hi : i < hs.length) : GP w0 wr Z hs (hs.getD i zH) i 0 := by
  obtain ⟨a, b⟩ := h.rest i (Nat.le_refl _) hi
  refine ⟨by rw [List.replicate_zero, List.append_nil]; exact b, .inl rfl, ?_⟩
  have := (Kd.R_reads' b).2.2
  rw [marks_len] at this
  exact this
theorem R_place {w : World} {base : Nat} {h : Hd} {xs : List Tok} (hR : kTok.R 33 w base Tt (encH h) xs) {k : Nat} (hk : (encH h).ownBlock = some k) : h.a = some ⟨k, 0, none⟩ := by
  obtain ⟨inner, hi⟩ := Kd.R_own hR
  rcases hi.2 with ⟨e0, _⟩ | ⟨g', cap', cur', e0, _⟩
  · rw [e0] at hk; simp [Value.ownBlock] at hk
  · rw [e0] at hk
    have : g' = k := by simpa [Value.ownBlock] using hk
    subst this
    have : encH h = .slice (some ⟨g', 0, none⟩) xs.length cap' := e0
    unfold encH at this
    injection this
/-- One more behind it. -/
theorem GP.step {A1 : Option Addr} {c1 m : Nat} (hG : GP w0 wr Z hs g i k) (h : BP w0 wr S Z hs fs vl vf i (i + 1)) (hd : Apart hs) (hi : i < hs.length)
    (hR : kTok.R 33 w' w0.heap.size Tt (.slice A1 m c1) ((marks i (hs.getD i zH).n ++ List.replicate k (fm i)) ++ [fm i])) (hg : wr.grownBy w' (encH g).ownBlock)
    (hat : (Value.slice A1 m c1).ownBlock = (encH g).ownBlock ∨ (∃ b, (Value.slice A1 m c1).ownBlock = some b ∧ wr.heap.size ≤ b) ∧ wr.grownBy w' none) :
    BP w0 w' S Z hs fs vl vf i (i + 1) ∧ GP w0 w' Z hs ⟨A1, m, c1⟩ i (k + 1) := by
  have hR : kTok.R 33 w' w0.heap.size Tt (encH ⟨A1, m, c1⟩) (marks i (hs.getD i zH).n ++ List.replicate (k + 1) (fm i)) := by
    rw [List.replicate_succ', ← List.append_assoc]; exact hR
  have hgb : ∀ k, (encH g).ownBlock = some k → w0.heap.size ≤ k ∧ ∃ cs, wr.heap[k]? = some (.cells cs 33 (0, 0)) := fun k hk => row_block hG.cur hk
  have hSZ := h.sz
  have hz := h.zz
  have hwas : kTok.C w' (hs.getD i zH).a (hs.getD i zH).n (marks i (hs.getD i zH).n) := by
    rcases Nat.eq_zero_or_pos (hs.getD i zH).n with h0 | hp0
    · have b := hG.was
      rw [h0] at b ⊢
      exact ⟨b.1, b.2.1, fun h => absurd h (Nat.lt_irrefl 0)⟩
    · obtain ⟨g', e'⟩ := h.form i hi hp0
      obtain ⟨hlt, cs', hc'⟩ := h.own i hi g' (own_of_a e')
      by_cases hsame : (encH g).ownBlock = some g'
      · rcases hat with hat | ⟨_, hnone⟩
        · rw [hsame] at hat
          have e1 : A1 = some ⟨g', 0, none⟩ := R_place (h := ⟨A1, m, c1⟩) hR hat
          have hC := (Kd.R_reads' hR).2.2
          have := Kd.C_take (m := (hs.getD i zH).n) hC (by rw [List.length_append, marks_len]; omega)
          rw [List.take_append_of_le_length (by rw [marks_len]; exact Nat.le_refl _), List.take_of_length_le (by rw [marks_len]; exact Nat.le_refl _)] at this
          rw [marks_len] at this
          rw [e', ← e1]
          exact this
        · have b := hG.was
          rw [e'] at b ⊢
          exact C_blk b (hnone.block g' (blk_lt hc') (by simp))
      · have b := hG.was
        rw [e'] at b ⊢
        exact C_blk b (hg.block g' (blk_lt hc') (Ne.symm hsame))
  refine ⟨h.move hg (fun k hk => (hgb k hk).1) (fun k cs hk hc => ?_) (fun k hk => ?_) (fun p hp hlt k hk => ?_) (by omega) (fun p hp => ⟨fun k hk => ?_, fun k h1 h2 => ?_⟩), ⟨hR, ?_, hwas⟩⟩
  · obtain ⟨_, cs', hc'⟩ := hgb k hk
    exact absurd (blk_diff hc hc') (by decide)
  · obtain ⟨_, cs', hc'⟩ := hgb k hk
    rcases hat with hat | ⟨_, hnone⟩
    · have : (encH ⟨A1, m, c1⟩).ownBlock = some k := by rw [← hk]; exact hat
      exact (row_block hR this).2
    · exact ⟨cs', (hnone.block k (blk_lt hc') (by simp)).trans hc'⟩
  · intro e
    rcases hG.at_ with a | ⟨b, a, hb⟩
    · rw [a] at e; exact hd p i hlt hi (by omega) k hk e
    · rw [a] at e; injection e with e; have := (h.own p hlt k hk).1; omega
  · intro e
    rcases hG.at_ with a | ⟨b, a, hb⟩
    · rw [a] at e; exact hd p i (by omega) hi (by omega) k hk e
    · rw [a] at e; injection e with e; have := (h.own p (by omega) k hk).1; omega
  · intro e
    rcases hG.at_ with a | ⟨b, a, hb⟩
    · rw [a] at e; have := (h.own i hi k e).1; omega
    · rw [a] at e; injection e with e; omega
  · rcases hat with hat | ⟨⟨b, hb, hle⟩, _⟩
    · rcases hG.at_ with a | ⟨b, a, hb⟩
      · exact .inl (Eq.trans hat a)
      · exact .inr ⟨b, Eq.trans hat a, hb⟩
    · exact .inr ⟨b, hb, by omega⟩
/-- It is put to the others. -/
theorem BP.push (h : BP w0 wr S Z hs fs vl vf i (i + 1)) (hG : GP w0 wr Z hs g i 60) (hn : (hs.getD i zH).n ≤ 100000) (hi : i < hs.length) (hR : kH.R 28 w' w0.heap.size Tt vf1 (fs ++ [g])) (hg : wr.grownBy w' vf.ownBlock)
    (hat : vf1.ownBlock = vf.ownBlock ∨ ∃ b, vf1.ownBlock = some b ∧ wr.heap.size ≤ b) : BP w0 w' S w'.heap.size hs (fs ++ [g]) vl vf1 (i + 1) (i + 1) := by
  have hk : ∀ (k : Nat) (cs : Array Value), wr.heap[k]? = some (Obj.cells cs 33 (0, 0)) → w'.heap[k]? = wr.heap[k]? := fun k cs hc => hg.block k (blk_lt hc) (fun e => by
    obtain ⟨_, c, hc2⟩ := row_block h.hf e.symm
    exact absurd (blk_diff hc hc2) (by decide))
  have hsz := hg.size
  have hSZ := h.sz
  have hz := h.zz
  refine ⟨R_flat flatH h.hd (fun k hk' => hg.block k ?_ (fun e => h.ne k hk' e.symm)) h.hd.1, hR, fun k hk' hk2 => ?_, by rw [List.length_append, h.fl]; rfl, fun p hp hlt => ?_, fun p hp k hk' => ?_, h.form, fun p hp => ?_, by omega, Nat.le_refl _, h.bel.grown hg h.bel.size (fun k hk' => (row_block h.hf hk').1)⟩
  · obtain ⟨_, c, hc⟩ := row_block h.hd hk'; exact blk_lt hc
  · rcases hat with e | ⟨b, e, hb⟩
    · exact h.ne k hk' (e ▸ hk2)
    · rw [e] at hk2
      cases hk2
      obtain ⟨_, c, hc⟩ := row_block h.hd hk'
      have := blk_lt hc
      omega
  · obtain ⟨a, b⟩ := h.rest p hp hlt
    refine ⟨a, R_flat flatTok b (fun k hk' => ?_) b.1⟩
    obtain ⟨_, c, hc⟩ := row_block b hk'
    exact hk k c hc
  · obtain ⟨a, cs, hc⟩ := h.own p hp k hk'
    exact ⟨a, cs, (hk k cs hc).trans hc⟩
  · have keep : ∀ q, q < hs.length → kTok.C wr (hs.getD q zH).a (hs.getD q zH).n (marks q (hs.getD q zH).n) → kTok.C w' (hs.getD q zH).a (hs.getD q zH).n (marks q (hs.getD q zH).n) := fun q hq b => by
      rcases Nat.eq_zero_or_pos (hs.getD q zH).n with h0 | hp0
      · rw [h0] at b ⊢
        exact ⟨b.1, b.2.1, fun h => absurd h (Nat.lt_irrefl 0)⟩
      · obtain ⟨g', e'⟩ := h.form q hq hp0
        obtain ⟨_, cs', hc'⟩ := h.own q hq g' (own_of_a e')
        rw [e'] at b ⊢
        exact C_blk b (hk g' cs' hc')
    by_cases e : p = i
    · subst e
      have hfl := h.fl
      have eg : (fs ++ [g]).getD p zH = g := by rw [← hfl]; simp [List.getD_eq_getElem?_getD]
      rw [eg]
      obtain ⟨g', cap, e1, _⟩ := Kd.R_form hG.cur (by rw [List.length_append, List.length_replicate]; omega)
      have e1 : g.a = some ⟨g', 0, none⟩ ∧ g.n = (marks p (hs.getD p zH).n ++ List.replicate 60 (fm p)).length := by unfold encH at e1; injection e1 with a b _; exact ⟨a, b⟩
      obtain ⟨e1, e1n⟩ := e1
      obtain ⟨_, cs, hc⟩ := row_block hG.cur (own_of_a e1)
      have hC := (Kd.R_reads' hG.cur).2.2
      rw [← e1n] at hC
      have e2 : g.n = (hs.getD p zH).n + 60 := by rw [e1n, List.length_append, marks_len, List.length_replicate]
      have hb := hk g' cs hc
      refine ⟨hn, keep p hi hG.was, e2, g', cs, e1, hb.trans hc, by have := blk_lt hc; omega, ?_, by rw [e1] at hC ⊢; exact C_blk hC hb⟩
      rcases hG.at_ with a | ⟨b, a, hb2⟩
      · exact .inl (by rw [← a]; exact own_of_a e1)
      · rw [own_of_a e1] at a; injection a with a; exact .inr (by omega)
    · have hlt : p < i := by omega
      have hfl := h.fl
      have eg : (fs ++ [g]).getD p zH = fs.getD p zH := by rw [List.getD_eq_getElem?_getD, List.getD_eq_getElem?_getD, List.getElem?_append_left (by omega)]
      rw [eg]
      obtain ⟨a, b, c, g', cs, e1, e2, e3, e4, e5⟩ := h.done p hlt
      have hb := hk g' cs e2
      exact ⟨a, keep p (by omega) b, c, g', cs, e1, hb.trans e2, by omega, e4, by rw [e1] at e5 ⊢; exact C_blk e5 hb⟩
theorem BP.rest_ (h : BP w0 wr S Z hs fs vl vf i i) : BP w0 wr S Z hs fs vl vf i (i + 1) := { h with rest := fun p hp hlt => h.rest p (by omega) hlt }
theorem BP.wide (h : BP w0 wr S Z hs fs vl vf i r) : BP w0 wr S wr.heap.size hs fs vl vf i r := { h with
  sz := Nat.le_trans h.sz h.zz, zz := Nat.le_refl _, done := fun p hp => by
    obtain ⟨a, b, c, g, cs, e1, e2, e3, e4, e5⟩ := h.done p hp
    exact ⟨a, b, c, g, cs, e1, e2, blk_lt e2, e4, e5⟩ }
end
end Go.Proofs.Yteenkeccpfgffaa
