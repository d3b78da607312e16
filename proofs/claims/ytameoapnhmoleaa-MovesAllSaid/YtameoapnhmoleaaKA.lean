/- Rows that share memory: headers, a row that is grown, families of rows (chapter 13, keep). keep.holdMoves (chapter 13). keep.holdMoves, walked (chapter 13). keep.holdMoves, walked (chapter 13). -/
import Derived.Test.YtameoapnhmoleaaX1
import Derived.WalkMore
import Derived.Deep.LoopGhost
import Derived.Deep.DeepCutAuto
set_option linter.unusedVariables false
set_option linter.unusedSimpArgs false
namespace Go.Proofs.Ytameoapnhmoleaa
open Go.RowKit Go.Proofs.YtameoapnhmoleaaW.PrintWords Go.Proofs.YtameoapnhmoleaaW.PrintLast Go.Proofs.YtameoapnhmoleaaW.PrintMore
open PP

structure Hd where
  a : Option Addr
  n : Nat
  c : Nat
def encH (h : Hd) : Value := .slice h.a h.n h.c
theorem encH_one (h : Hd) : (encH h).oneCell' = true := rfl
def kH : Kd Hd := Kd.scalar encH encH_one
theorem flatH : Flat kH := flat_scalar
def zH : Hd := ⟨none, 0, 0⟩
theorem info22 : (Try.prog.info? 22).map (fun i => (i.zero, i.size, i.bytes)) = some (some (.slice none 0 0), 1, 24) := by kernel_rfl
theorem kH_cell {g n c base : Nat} {ok : Nat → Prop} {xs : List Hd} {w : World} (h : kH.R 22 w base ok (.slice (some ⟨g, 0, none⟩) n c) xs) (i : Nat) (hi : i < n) :
    w.cell? ⟨g, i, none⟩ = some (encH (xs.getD i zH)) ∧ w.frozen? ⟨g, i, none⟩ = false := Kd.R_celln (enc := encH) (h1 := encH_one) zH h (i : Int) (by omega) (by omega)
section
variable {P : Program} (w : World)
/-- An append, and what it leaves: there was room, or all is new. -/
theorem run_app_new (base : Nat) (t ty e : TypeId) (i : TypeInfo) (z : Value) (size bytes : Nat) (ht : P.underlying t = some (.slice e)) (hi : P.info? e = some i) (hz : i.zero = some z)
    (hsize : i.size = size) (hby : i.bytes = bytes) (hzs : z.cells.size = size) (hsz : 0 < size)
    (v : Value) (n : Nat) (xs : List Value) (hown : w.ownsRow base e size v n xs)
    (a : Addr) (m c : Nat) (news : List Value) (hl : news.length = m * size) (hnews : ∀ j u, news[j]? = some u → w.cell? (a.add j) = some u) (h1 : ∀ u ∈ news, u.oneCell' = true)
    (h63 : n + m ≤ maxLen) (hbytes : (n + m) * bytes ≤ 140737488355328) (hbase : base ≤ w.heap.size) (hm : 0 < m) :
    ∃ v' w', (Builtin.append_ #[t, t] ty #[v, .slice (some a) m c]).run P w = .ok v' w' ∧ w'.ownsRow base e size v' (n + m) (xs ++ news) ∧ w.grownBy w' v.ownBlock ∧
      (v'.ownBlock = v.ownBlock ∨ v'.ownBlock = some w.heap.size ∧ w.grownBy w' none) := by
  obtain ⟨v', w', hr, h2, h3, _, hat⟩ := run_append_own_at (P := P) w base t ty e i z size bytes ht hi hz hsize hby hzs hsz v n xs hown a m c news hl hnews h1 h63 hbytes hbase
  refine ⟨v', w', hr, h2, h3, ?_⟩
  rcases hat with hat | hat
  · exact .inl hat
  · refine .inr ⟨hat, ?_⟩
    rcases hown.2 with ⟨rfl, _⟩ | ⟨g, cap, cur, rfl, hbg, hg, hnc, hcm, hcs, htake⟩
    · exact h3
    · subst hsize
      subst hby
      by_cases hroom : n + m ≤ cap
      · have hfit : n * i.size + news.length ≤ cur.size := by rw [hl, hcs, ← Nat.add_mul]; exact Nat.mul_le_mul_right _ hroom
        have hr2 := run_append_room (P := P) w t ty e i ht hi g n cap cur hg a m c news hl hnews h1 hroom hfit
        rw [hr] at hr2
        injection hr2 with e1 e2
        rw [e1] at hat
        have hgs := (Array.getElem?_eq_some_iff.1 hg).1
        simp [Value.ownBlock] at hat
        omega
      · have holds : ∀ j u, xs[j]? = some u → w.cell? ((⟨g, 0, none⟩ : Addr).add j) = some u := hown.cells (g := g) rfl
        have hr2 := run_append_grow (P := P) w t ty e i z ht hi hz ⟨g, 0, none⟩ n cap xs hown.1 holds a m c news hl hnews (by omega) (by have := h63; simp only [maxLen] at this; omega) (growslice_fits (by omega) hbytes)
        rw [hr] at hr2
        injection hr2 with e1 e2
        rw [e2]
        exact ⟨rfl, rfl, rfl, by simp, fun k hk _ => Below.heap_alloc w.drew _ k hk⟩
end
section
variable {P : Program} {ops : Array Oper} {rest : List Oper} {o : Oper} {a : Act} {Q : Exit → Act → World → Prop} {α : Type}
theorem far_append (d : Kd α) {W : World} (base : Nat) (hgd : o.guard = none) (s x : Operand) (t e : TypeId) (z : Value) (bytes : Nat)
    (ho : o.op = .call { callee := .builtin .append, args := #[s, x], argTypes := #[t, t] })
    (ht : P.underlying t = some (.slice e)) (hinfo : (P.info? e).map (fun i => (i.zero, i.size, i.bytes)) = some (some z, d.sz, bytes)) (hz : z.cells.size = d.sz) (hs0 : 0 < d.sz) (hb0 : 0 < bytes)
    (v : Value) (xs : List α) (p : α) (cs : List Value) (ok : Nat → Prop) (hs : a.eval s = v) (hx : a.eval x = .slice (some ⟨W.heap.size, 0, none⟩) 1 1) (hp : d.M W base (fun _ => False) p cs) (hfresh : ∀ k, W.heap.size ≤ k → ok k)
    (HO : d.R e W base ok v xs) (hbase : base ≤ W.heap.size) (hl : (xs.length + 1) * bytes ≤ 140737488355328)
    (h : ∀ v1 w1, d.R e w1 base ok v1 (xs ++ [p]) → W.grownBy w1 v.ownBlock → (v1.ownBlock = v.ownBlock ∨ (∃ b, v1.ownBlock = some b ∧ W.heap.size ≤ b) ∧ W.grownBy w1 none) → wpList P ops Q rest (a.put o.dst v1) w1) :
    wpList P ops Q (o :: rest) a (W.alloc (.cells cs.toArray e)) := by
  obtain ⟨h0, inner, hown, hr⟩ := HO
  obtain ⟨i0, hi, hzz⟩ := Option.map_eq_some_iff.1 hinfo
  simp only [Prod.mk.injEq] at hzz
  obtain ⟨hz0, hz1, hz2⟩ := hzz
  have hlen : xs.length + 1 ≤ 140737488355328 := Nat.le_trans (Nat.le_mul_of_pos_right _ hb0) hl
  obtain ⟨v1, w1, hrun, hown1, hg, hat⟩ := run_app_new (P := P) (W.alloc (.cells cs.toArray e)) base t o.type e i0 z d.sz bytes ht hi hz0 hz1 hz2 hz hs0 v xs.length inner (hown.alloc _) ⟨W.heap.size, 0, none⟩ 1 1 cs (by rw [d.K_len (d.K_of_M hp)]; simp)
    (by simpa using World.news_of_block (cs := cs.toArray) (t := e) (fr := (0, 0)) (heap_alloc_new W (.cells cs.toArray e))) (d.K_one (d.K_of_M hp)) (by simp only [maxLen]; omega) hl (by simp; omega) (by decide)
  have hg2 := World.grownBy.trans (World.grownBy_alloc W (.cells cs.toArray e) v.ownBlock) hg
  have hat1 : v1.ownBlock = v.ownBlock ∨ ∃ b, v1.ownBlock = some b ∧ W.heap.size ≤ b := by
    rcases hat with hat | hat
    · exact .inl hat
    · exact .inr ⟨_, hat.1, by simp⟩
  refine wpList_plain hgd fun K hK => ?_
  unfold Oper.wp execOp
  simp only [ho, resolve, invoke, builtin, Sem.run_bind, Sem.run_pure, Result.andThen_ok, List.map_toArray, List.map_cons, List.map_nil, hs, hx, hrun]
  refine hK _ _ (h v1 w1 (Kd.R_appended h0 hr hp (fun _ h => h.elim) hfresh hown1 hg2 hat1) hg2 ?_)
  rcases hat with hat | hat
  · exact .inl hat
  · exact .inr ⟨⟨_, hat.1, by simp⟩, World.grownBy.trans (World.grownBy_alloc W (.cells cs.toArray e) none) hat.2⟩
end
end Go.Proofs.Ytameoapnhmoleaa
set_option linter.unusedVariables false
set_option linter.unusedSimpArgs false
namespace Go.Proofs.Ytameoapnhmoleaa
open Go.RowKit Go.Proofs.YtameoapnhmoleaaW.PrintWords Go.Proofs.YtameoapnhmoleaaW.PrintLast Go.Proofs.YtameoapnhmoleaaW.PrintMore
open PP

def mkM (m : Int) : Mv := ⟨⟨-9, m⟩, ⟨0, 0⟩⟩
/-- n marks, from the beginning of block g. -/
def Full (w : World) (g n : Nat) (m : Int) : Prop := ∀ q, q < n → w.cell? ⟨g, q * 4, none⟩ = some (.int .i64 (-9)) ∧ w.cell? ⟨g, q * 4 + 1, none⟩ = some (.int .i64 m) ∧ w.cell? ⟨g, q * 4 + 2, none⟩ = some (.int .i64 0) ∧ w.cell? ⟨g, q * 4 + 3, none⟩ = some (.int .i64 0)
theorem Full.kept {w w' : World} {g n : Nat} {m : Int} (h : Full w g n m) (hb : w'.heap[g]? = w.heap[g]?) : Full w' g n m := by
  intro q hq
  obtain ⟨h0, h1, h2, h3⟩ := h q hq
  exact ⟨(World.cell?_of_block hb).trans h0, (World.cell?_of_block hb).trans h1, (World.cell?_of_block hb).trans h2, (World.cell?_of_block hb).trans h3⟩
theorem Full.less {w : World} {g n n' : Nat} {m : Int} (h : Full w g n m) (hn : n' ≤ n) : Full w g n' m := fun q hq => h q (by omega)
theorem full_of {w : World} {g n c base : Nat} {ok : Nat → Prop} {m : Int} (h : k36.R 36 w base ok (.slice (some ⟨g, 0, none⟩) n c) (List.replicate n (mkM m))) : Full w g n m := by
  have hC := (Kd.R_reads' h).2.2
  rw [List.length_replicate] at hC
  intro q hq
  obtain ⟨ad, hA, h0, h1, h2, h3⟩ := mv_cells hC q hq
  cases hA
  rw [add_plain] at h0 h1 h2 h3
  have e : (List.replicate n (mkM m)).getD q z36 = mkM m := by rw [List.getD_eq_getElem?_getD, List.getElem?_replicate, if_pos hq]; rfl
  rw [e] at h0 h1 h2 h3
  simp only [Nat.zero_add] at h0 h1 h2 h3
  exact ⟨h0, h1, h2, h3⟩
structure NKr (w : World) (ok : Nat → Prop) (base K : Nat) (hs : List Hd) (ms : List Int) (vm vk : Value) : Prop where
  blk : w.heap[K]? = some (.cells #[.bool false, vm, .slice none 0 0, vk] 48 (0, 0))
  bK : base ≤ K
  okK : ok K
  rm : kH.R 22 w base ok vm hs
  rk : kI.R 3 w base ok vk ms
structure Fam (w : World) (ok : Nat → Prop) (hs : List Hd) (ms : List Int) : Prop where
  len : hs.length = ms.length
  ent : ∀ j, j < hs.length → 0 < (hs.getD j zH).n → ∃ g, (hs.getD j zH).a = some ⟨g, 0, none⟩ ∧ ok g ∧ (∃ cur, w.heap[g]? = some (.cells cur 36 (0, 0))) ∧ Full w g (hs.getD j zH).n (rd ms (j : Nat))
  sep : ∀ i j, i < hs.length → j < hs.length → 0 < (hs.getD i zH).n → 0 < (hs.getD j zH).n → (hs.getD i zH).a = (hs.getD j zH).a → rd ms (i : Nat) = rd ms (j : Nat)
section
variable {w w' w1 : World} {ok : Nat → Prop} {base K : Nat} {hs : List Hd} {ms : List Int} {vm vk vm1 vk1 : Value} {x : Hd} {m : Int}
theorem Fam.kept (h : Fam w ok hs ms) (hb : ∀ g cur, ok g → w.heap[g]? = some (.cells cur 36 (0, 0)) → w'.heap[g]? = w.heap[g]?) : Fam w' ok hs ms :=
  ⟨h.len, fun j hj hn => by
    obtain ⟨g, e, ho, ⟨cur, hc⟩, hf⟩ := h.ent j hj hn
    have := hb g cur ho hc
    exact ⟨g, e, ho, ⟨cur, this.trans hc⟩, hf.kept this⟩, h.sep⟩
theorem NKr.lt (h : NKr w ok base K hs ms vm vk) : K < w.heap.size := blk_lt h.blk
theorem NKr.kept (h : NKr w ok base K hs ms vm vk) (hb : ∀ g, ok g → g < w.heap.size → w'.heap[g]? = w.heap[g]?) : NKr w' ok base K hs ms vm vk :=
  ⟨(hb K h.okK h.lt).trans h.blk, h.bK, h.okK, R_flat flatH h.rm (fun k hk => hb k (h.rm.1 k hk) (IsWV.rowlt h.rm k hk)) h.rm.1, R_flat flatI h.rk (fun k hk => hb k (h.rk.1 k hk) (IsWV.rowlt h.rk k hk)) h.rk.1⟩
theorem NKr.pushM (h : NKr w ok base K hs ms vm vk) (hR : kH.R 22 w1 base ok vm1 (hs ++ [x])) (hg : w.grownBy w1 vm.ownBlock) (hat : vm1.ownBlock = vm.ownBlock ∨ ∃ b, vm1.ownBlock = some b ∧ w.heap.size ≤ b) :
    NKr (w1.setCell ⟨K, 1, none⟩ vm1) ok base K (hs ++ [x]) ms vm1 vk ∧ Fr w (w1.setCell ⟨K, 1, none⟩ vm1) (fun k => k = K ∨ some k = vm.ownBlock) := by
  have hne : vm.ownBlock ≠ some K := row_ne h.rm h.blk (by decide)
  have hne1 : vm1.ownBlock ≠ some K := by
    rcases hat with e | ⟨b, e, hb2⟩
    · rwa [e]
    · rw [e]; intro he; cases he; have := h.lt; omega
  have hb1 : w1.heap[K]? = _ := (hg.block K h.lt (Ne.symm hne)).trans h.blk
  have hS : ∀ q, q < w.heap.size → q ≠ K → vm.ownBlock ≠ some q → (w1.setCell ⟨K, 1, none⟩ vm1).heap[q]? = w.heap[q]? := fun q hq h1 h2 => (Below.heap_setCell w1 ⟨K, 1, none⟩ vm1 q h1).trans (hg.block q hq (Ne.symm h2))
  refine ⟨⟨blk_set hb1 1 vm1, h.bK, h.okK, R_flat flatH hR (fun k hk => Below.heap_setCell w1 ⟨K, 1, none⟩ vm1 k (fun e => hne1 (by rw [hk]; exact congrArg some e))) hR.1, ?_⟩, Fr.set (S := fun k => k = K ∨ some k = vm.ownBlock) (p := ⟨K, 1, none⟩) (Fr.of_grown hg (fun k hk => .inr hk.symm)) (.inl (.inl rfl)) vm1⟩
  exact R_flat flatI h.rk (fun k hk => hS k (IsWV.rowlt h.rk k hk) (fun e => row_ne h.rk h.blk (by decide) (e ▸ hk)) (row_ne_row h.rk h.rm (by decide) k hk)) h.rk.1
theorem NKr.pushK (h : NKr w ok base K hs ms vm vk) (hR : kI.R 3 w1 base ok vk1 (ms ++ [m])) (hg : w.grownBy w1 vk.ownBlock) (hat : vk1.ownBlock = vk.ownBlock ∨ ∃ b, vk1.ownBlock = some b ∧ w.heap.size ≤ b) :
    NKr (w1.setCell ⟨K, 3, none⟩ vk1) ok base K hs (ms ++ [m]) vm vk1 ∧ Fr w (w1.setCell ⟨K, 3, none⟩ vk1) (fun k => k = K ∨ some k = vk.ownBlock) := by
  have hne : vk.ownBlock ≠ some K := row_ne h.rk h.blk (by decide)
  have hne1 : vk1.ownBlock ≠ some K := by
    rcases hat with e | ⟨b, e, hb2⟩
    · rwa [e]
    · rw [e]; intro he; cases he; have := h.lt; omega
  have hb1 : w1.heap[K]? = _ := (hg.block K h.lt (Ne.symm hne)).trans h.blk
  have hS : ∀ q, q < w.heap.size → q ≠ K → vk.ownBlock ≠ some q → (w1.setCell ⟨K, 3, none⟩ vk1).heap[q]? = w.heap[q]? := fun q hq h1 h2 => (Below.heap_setCell w1 ⟨K, 3, none⟩ vk1 q h1).trans (hg.block q hq (Ne.symm h2))
  refine ⟨⟨blk_set hb1 3 vk1, h.bK, h.okK, ?_, R_flat flatI hR (fun k hk => Below.heap_setCell w1 ⟨K, 3, none⟩ vk1 k (fun e => hne1 (by rw [hk]; exact congrArg some e))) hR.1⟩, Fr.set (S := fun k => k = K ∨ some k = vk.ownBlock) (p := ⟨K, 3, none⟩) (Fr.of_grown hg (fun k hk => .inr hk.symm)) (.inl (.inl rfl)) vk1⟩
  exact R_flat flatH h.rm (fun k hk => hS k (IsWV.rowlt h.rm k hk) (fun e => row_ne h.rm h.blk (by decide) (e ▸ hk)) (row_ne_row h.rm h.rk (by decide) k hk)) h.rm.1
/-- A store of the state's own leaves the families. -/
theorem Fam.state {v : Value} {ty : TypeId} {d : Kd Int} (h : Fam w ok hs ms) (hF : Fr w w' (fun k => k = K ∨ some k = v.ownBlock)) (hK : ∃ cs, w.heap[K]? = some (.cells cs 48 (0, 0))) (hv : ∀ k, v.ownBlock = some k → ∃ cs, w.heap[k]? = some (.cells cs ty (0, 0))) (hty : ty ≠ 36) : Fam w' ok hs ms := by
  refine h.kept (fun g cur ho hc => hF.2.2.2.2 g (blk_lt hc) ?_)
  rintro (rfl | e)
  · obtain ⟨cs, hk⟩ := hK
    rw [hc] at hk
    injection hk with hk
    injection hk with _ hk
    exact absurd hk (by decide)
  · obtain ⟨cs, hk⟩ := hv g e.symm
    rw [hc] at hk
    injection hk with hk
    injection hk with _ hk
    exact hty hk.symm
end
theorem cells4b {w : World} {g : Nat} {x0 x1 x2 x3 : Value} {t : TypeId} (h : w.heap[g]? = some (.cells #[x0, x1, x2, x3] t (0, 0))) :
    w.cell? ⟨g, 0, none⟩ = some x0 ∧ w.cell? ⟨g, 1, none⟩ = some x1 ∧ w.cell? ⟨g, 2, none⟩ = some x2 ∧ w.cell? ⟨g, 3, none⟩ = some x3 := cells4 h
theorem getD_last {α : Type} {l : List α} {x d : α} {j : Nat} (h : j < (l ++ [x]).length) : (j < l.length ∧ (l ++ [x]).getD j d = l.getD j d) ∨ (j = l.length ∧ (l ++ [x]).getD j d = x) := by
  simp only [List.length_append, List.length_singleton] at h
  rcases Nat.lt_or_ge j l.length with h2 | h2
  · exact .inl ⟨h2, by rw [List.getD_eq_getElem?_getD, List.getD_eq_getElem?_getD, List.getElem?_append_left h2]⟩
  · obtain rfl : j = l.length := by omega
    exact .inr ⟨rfl, by simp [List.getD_eq_getElem?_getD]⟩
theorem rd_last {l : List Int} {x : Int} {j : Nat} (h : j < (l ++ [x]).length) : (j < l.length ∧ rd (l ++ [x]) (j : Nat) = rd l (j : Nat)) ∨ (j = l.length ∧ rd (l ++ [x]) (j : Nat) = x) := by
  rw [rd_nat, rd_nat]
  exact getD_last h
/-- One more, of a family that is apart. -/
theorem Fam.more {w : World} {ok : Nat → Prop} {hs : List Hd} {ms : List Int} {x : Hd} {m : Int} (h : Fam w ok hs ms) (hx : 0 < x.n → ∃ g, x.a = some ⟨g, 0, none⟩ ∧ ok g ∧ (∃ cur, w.heap[g]? = some (.cells cur 36 (0, 0))) ∧ Full w g x.n m)
    (hsep : ∀ j, j < hs.length → 0 < (hs.getD j zH).n → 0 < x.n → (hs.getD j zH).a = x.a → rd ms (j : Nat) = m) : Fam w ok (hs ++ [x]) (ms ++ [m]) := by
  have hl := h.len
  refine ⟨by simp [hl], fun j hj hn => ?_, fun i j hi hj hni hnj e => ?_⟩
  · rcases getD_last (d := zH) hj with ⟨h1, h2⟩ | ⟨h1, h2⟩
    · rw [h2] at hn ⊢
      rcases rd_last (l := ms) (x := m) (j := j) (by simp; omega) with ⟨_, h4⟩ | ⟨h3, _⟩
      · rw [h4]; exact h.ent j h1 hn
      · omega
    · rw [h2] at hn ⊢
      rcases rd_last (l := ms) (x := m) (j := j) (by simp; omega) with ⟨h3, _⟩ | ⟨_, h4⟩
      · omega
      · rw [h4]; exact hx hn
  · rcases getD_last (d := zH) hi with ⟨a1, a2⟩ | ⟨a1, a2⟩ <;> rcases getD_last (d := zH) hj with ⟨b1, b2⟩ | ⟨b1, b2⟩ <;> rw [a2] at hni e <;> rw [b2] at hnj e <;>
      rcases rd_last (l := ms) (x := m) (j := i) (by simp; omega) with ⟨c1, c2⟩ | ⟨c1, c2⟩ <;> rcases rd_last (l := ms) (x := m) (j := j) (by simp; omega) with ⟨d1, d2⟩ | ⟨d1, d2⟩ <;> (try omega) <;> rw [c2, d2]
    · exact h.sep i j a1 b1 hni hnj e
    · exact hsep i a1 hni hnj e
    · exact (hsep j b1 hnj hni e.symm).symm
end Go.Proofs.Ytameoapnhmoleaa
set_option linter.unusedVariables false
set_option linter.unusedSimpArgs false
namespace Go.Proofs.Ytameoapnhmoleaa
open Go.RowKit Go.Proofs.YtameoapnhmoleaaW.PrintWords Go.Proofs.YtameoapnhmoleaaW.PrintLast Go.Proofs.YtameoapnhmoleaaW.PrintMore
open PP

/-- What stands at a round's head. -/
structure HI (w0 w : World) (ok0 ok : Nat → Prop) (base K N : Nat) (hs : List Hd) (ms : List Int) (vm vk : Value) (m : Int) (x : Hd) : Prop where
  st : NKr w ok base K hs ms vm vk
  fam : Fam w ok hs ms
  far : k36.R 36 w base ok (encH x) (List.replicate x.n (mkM m))
  mine : ∀ j, j < hs.length → 0 < (hs.getD j zH).n → (hs.getD j zH).a = x.a → rd ms (j : Nat) = m ∧ (hs.getD j zH).n ≤ x.n
  num : hs.length ≤ N
  fr : Fr w0 w ok0
  bnd : ∀ j, j < hs.length → (hs.getD j zH).n ≤ 1000000
  xb : x.n ≤ 1000000
theorem far_at {w : World} {base : Nat} {ok : Nat → Prop} {x : Hd} {m : Int} (h : k36.R 36 w base ok (encH x) (List.replicate x.n (mkM m))) (hn : 0 < x.n) :
    ∃ g, x.a = some ⟨g, 0, none⟩ ∧ ok g ∧ (∃ cur, w.heap[g]? = some (.cells cur 36 (0, 0))) ∧ Full w g x.n m := by
  obtain ⟨g, cap, e, hb, hl, cur, hc⟩ := Kd.R_form h (by simpa using hn)
  rw [List.length_replicate] at e
  have e2 : x.a = some ⟨g, 0, none⟩ := by injection e
  have hf : Full w g x.n m := full_of (c := cap) (by rw [e] at h; exact h)
  exact ⟨g, e2, h.1 g (by rw [e]; simp [Value.ownBlock]), ⟨cur, hc⟩, hf⟩
section
variable {w0 w w1 : World} {ok0 ok : Nat → Prop} {base K N : Nat} {hs : List Hd} {ms : List Int} {vm vk vm1 vk1 : Value} {m : Int} {x y : Hd}
theorem ok_sub (h : ∀ k, ok k → ok0 k ∨ w0.heap.size ≤ k) {v : Value} {α : Type} {d : Kd α} {e : Nat} {xs : List α} (hv : d.R e w base ok v xs) (hK : ok K) : ∀ k, (k = K ∨ some k = v.ownBlock) → ok0 k ∨ w0.heap.size ≤ k := by
  rintro k (rfl | hk)
  · exact h _ hK
  · exact h _ (hv.1 k hk.symm)
/-- It is put to the others, with its mark. -/
theorem HI.push (h : HI w0 w ok0 ok base K N hs ms vm vk m x) (hsub : ∀ k, ok k → ok0 k ∨ w0.heap.size ≤ k)
    (hR : kH.R 22 w1 base ok vm1 (hs ++ [x])) (hg : w.grownBy w1 vm.ownBlock) (hat : vm1.ownBlock = vm.ownBlock ∨ ∃ b, vm1.ownBlock = some b ∧ w.heap.size ≤ b) :
    NKr (w1.setCell ⟨K, 1, none⟩ vm1) ok base K (hs ++ [x]) ms vm1 vk ∧ Fr w0 (w1.setCell ⟨K, 1, none⟩ vm1) ok0 ∧ Fam (w1.setCell ⟨K, 1, none⟩ vm1) ok hs ms ∧ k36.R 36 (w1.setCell ⟨K, 1, none⟩ vm1) base ok (encH x) (List.replicate x.n (mkM m)) := by
  obtain ⟨h1, h2⟩ := h.st.pushM hR hg hat
  refine ⟨h1, h.fr.then_ h2 (ok_sub hsub h.st.rm h.st.okK), Fam.state (v := vm) (ty := 22) (d := kI) h.fam h2 ⟨_, h.st.blk⟩ (fun k hk => (row_block h.st.rm hk).2) (by decide), ?_⟩
  refine R_flat flat36 h.far (fun k hk => h2.2.2.2.2 k (IsWV.rowlt h.far k hk) ?_) h.far.1
  rintro (rfl | e)
  · exact row_ne h.far h.st.blk (by decide) hk
  · exact row_ne_row h.far h.st.rm (by decide) k hk e.symm
theorem HI.mark {wp : World} (hst : NKr w ok base K (hs ++ [x]) ms vm vk) (hfr : Fr w0 w ok0) (hfam : Fam w ok hs ms) (hfar : k36.R 36 w base ok (encH x) (List.replicate x.n (mkM m)))
    (hmine : ∀ j, j < hs.length → 0 < (hs.getD j zH).n → (hs.getD j zH).a = x.a → rd ms (j : Nat) = m ∧ (hs.getD j zH).n ≤ x.n) (hnum : hs.length ≤ N) (hbnd : ∀ j, j < hs.length → (hs.getD j zH).n ≤ 1000000) (hxb : x.n ≤ 1000000) (hsub : ∀ k, ok k → ok0 k ∨ w0.heap.size ≤ k)
    (hR : kI.R 3 w1 base ok vk1 (ms ++ [m])) (hg : w.grownBy w1 vk.ownBlock) (hat : vk1.ownBlock = vk.ownBlock ∨ ∃ b, vk1.ownBlock = some b ∧ w.heap.size ≤ b) :
    HI w0 (w1.setCell ⟨K, 3, none⟩ vk1) ok0 ok base K (N + 1) (hs ++ [x]) (ms ++ [m]) vm vk1 m x := by
  obtain ⟨h1, h2⟩ := hst.pushK hR hg hat
  have hfar2 : k36.R 36 (w1.setCell ⟨K, 3, none⟩ vk1) base ok (encH x) (List.replicate x.n (mkM m)) := by
    refine R_flat flat36 hfar (fun k hk => h2.2.2.2.2 k (IsWV.rowlt hfar k hk) ?_) hfar.1
    rintro (rfl | e)
    · exact row_ne hfar hst.blk (by decide) hk
    · exact row_ne_row hfar hst.rk (by decide) k hk e.symm
  have hfam2 := Fam.state (v := vk) (ty := 3) (d := kI) hfam h2 ⟨_, hst.blk⟩ (fun k hk => (row_block hst.rk hk).2) (by decide)
  refine ⟨h1, hfam2.more (far_at hfar2) (fun j hj hn hx e => (hmine j hj hn e).1), hfar2, ?_, by simp; omega, hfr.then_ h2 (ok_sub hsub hst.rk hst.okK), fun j hj => (by
    rcases getD_last (d := zH) hj with ⟨a1, a2⟩ | ⟨a1, a2⟩ <;> rw [a2]
    · exact hbnd j a1
    · exact hxb), hxb⟩
  intro j hj hn e
  rcases getD_last (d := zH) hj with ⟨a1, a2⟩ | ⟨a1, a2⟩ <;> rw [a2] at hn e ⊢ <;> rcases rd_last (l := ms) (x := m) (j := j) (by have := hfam.len; simp; omega) with ⟨c1, c2⟩ | ⟨c1, c2⟩ <;> (try (have := hfam.len; omega)) <;> rw [c2]
  · exact hmine j a1 hn e
/-- It is grown. -/
theorem HI.grow {c1 : Nat} {A1 : Option Addr} (h : HI w0 w ok0 ok base K N hs ms vm vk m x) (hx1 : x.n + 1 ≤ 1000000) (hsub : ∀ k, ok k → ok0 k ∨ w0.heap.size ≤ k)
    (hR : k36.R 36 w1 base ok (.slice A1 (x.n + 1) c1) (List.replicate x.n (mkM m) ++ [mkM m])) (hg : w.grownBy w1 (encH x).ownBlock)
    (hat : (Value.slice A1 (x.n + 1) c1).ownBlock = (encH x).ownBlock ∨ (∃ b, (Value.slice A1 (x.n + 1) c1).ownBlock = some b ∧ w.heap.size ≤ b) ∧ w.grownBy w1 none) :
    HI w0 w1 ok0 ok base K N hs ms vm vk m ⟨A1, x.n + 1, c1⟩ := by
  have hR : k36.R 36 w1 base ok (encH ⟨A1, x.n + 1, c1⟩) (List.replicate (x.n + 1) (mkM m)) := by rw [List.replicate_succ']; exact hR
  obtain ⟨g1, e1, o1, ⟨cur1, hc1⟩, hf1⟩ := far_at (x := ⟨A1, x.n + 1, c1⟩) hR (Nat.succ_pos _)
  have hfr : Fr w w1 (fun k => some k = (encH x).ownBlock) := Fr.of_grown hg (fun k hk => hk.symm)
  have hst : NKr w1 ok base K hs ms vm vk := by
    have hb : ∀ k, k < w.heap.size → (encH x).ownBlock ≠ some k → w1.heap[k]? = w.heap[k]? := fun k hk hne => hg.block k hk (Ne.symm hne)
    refine ⟨(hb K h.st.lt (row_ne h.far h.st.blk (by decide))).trans h.st.blk, h.st.bK, h.st.okK, ?_, ?_⟩
    · exact R_flat flatH h.st.rm (fun k hk => hb k (IsWV.rowlt h.st.rm k hk) (row_ne_row h.st.rm h.far (by decide) k hk)) h.st.rm.1
    · exact R_flat flatI h.st.rk (fun k hk => hb k (IsWV.rowlt h.st.rk k hk) (row_ne_row h.st.rk h.far (by decide) k hk)) h.st.rk.1
  have hA : A1 = some ⟨g1, 0, none⟩ := e1
  have hown : (Value.slice A1 (x.n + 1) c1).ownBlock = some g1 := by rw [hA]; simp [Value.ownBlock]
  have hfam : Fam w1 ok hs ms := by
    refine ⟨h.fam.len, fun j hj hn => ?_, h.fam.sep⟩
    obtain ⟨g, e, ho, ⟨cur, hc⟩, hf⟩ := h.fam.ent j hj hn
    by_cases hx : (encH x).ownBlock = some g
    · rcases hat with hat | ⟨_, hnone⟩
      · rw [hown, hx] at hat
        injection hat with hat
        subst hat
        have hxa : x.a = some ⟨g1, 0, none⟩ := by
          have hxn : 0 < x.n := by
            rcases Nat.eq_zero_or_pos x.n with h0 | h0
            · have hz := h.far
              have := Kd.R_own hz
              obtain ⟨inner, hi⟩ := this
              rcases hi.2 with ⟨e0, _⟩ | ⟨g', cap', cur', e0, _⟩
              · rw [e0] at hx; simp [Value.ownBlock] at hx
              · rw [e0] at hx
                have : g' = g1 := by simpa [Value.ownBlock] using hx
                subst this
                have e3 : x.a = some ⟨g', 0, none⟩ := by
                  have : encH x = .slice (some ⟨g', 0, none⟩) (List.replicate x.n (mkM m)).length cap' := e0
                  unfold encH at this
                  injection this
                have := (h.mine j hj hn (by rw [e, e3])).2
                omega
            · exact h0
          obtain ⟨g', e', _, _, _⟩ := far_at h.far hxn
          have : (encH x).ownBlock = some g' := by unfold encH; rw [e']; simp [Value.ownBlock]
          rw [hx] at this
          injection this with this
          rw [e', this]
        obtain ⟨m1, m2⟩ := h.mine j hj hn (by rw [e, hxa])
        rw [m1]
        exact ⟨g1, e, ho, ⟨cur1, hc1⟩, hf1.less (by show _ ≤ x.n + 1; omega)⟩
      · have hs := hnone.block g (blk_lt hc) (by simp)
        exact ⟨g, e, ho, ⟨cur, hs.trans hc⟩, hf.kept hs⟩
    · have hs := hg.block g (blk_lt hc) (Ne.symm hx)
      exact ⟨g, e, ho, ⟨cur, hs.trans hc⟩, hf.kept hs⟩
  refine ⟨hst, hfam, hR, fun j hj hn e => ?_, h.num, h.fr.then_ hfr (fun k hk => hsub k (h.far.1 k hk.symm)), h.bnd, hx1⟩
  have e : (hs.getD j zH).a = some ⟨g1, 0, none⟩ := e.trans hA
  obtain ⟨g, e2, ho, ⟨cur, hc⟩, hf⟩ := h.fam.ent j hj hn
  rw [e2] at e
  injection e with e
  injection e with e
  subst e
  rcases hat with hat | ⟨⟨b, hb1, hb2⟩, _⟩
  · rw [hown] at hat
    rcases Nat.eq_zero_or_pos x.n with h0 | h0
    · obtain ⟨inner, hi⟩ := Kd.R_own h.far
      rcases hi.2 with ⟨e0, _⟩ | ⟨g', cap', cur', e0, _⟩
      · rw [e0] at hat; simp [Value.ownBlock] at hat
      · have e3 : x.a = some ⟨g', 0, none⟩ := by
          have : encH x = .slice (some ⟨g', 0, none⟩) (List.replicate x.n (mkM m)).length cap' := e0
          unfold encH at this
          injection this
        rw [e0] at hat
        have : g = g' := by simpa [Value.ownBlock] using hat
        subst this
        obtain ⟨m1, m2⟩ := h.mine j hj hn (by rw [e2, e3])
        exact ⟨m1, by show _ ≤ x.n + 1; omega⟩
    · obtain ⟨g', e', _, _, _⟩ := far_at h.far h0
      have : (encH x).ownBlock = some g' := by unfold encH; rw [e']; simp [Value.ownBlock]
      rw [this] at hat
      injection hat with hat
      subst hat
      obtain ⟨m1, m2⟩ := h.mine j hj hn (by rw [e2, e'])
      exact ⟨m1, by show _ ≤ x.n + 1; omega⟩
  · rw [hown] at hb1
    injection hb1 with hb1
    have := blk_lt hc
    omega
end
end Go.Proofs.Ytameoapnhmoleaa
set_option linter.unusedVariables false
set_option linter.unusedSimpArgs false
namespace Go.Proofs.Ytameoapnhmoleaa
open Go.RowKit Go.Proofs.YtameoapnhmoleaaW.PrintWords Go.Proofs.YtameoapnhmoleaaW.PrintLast Go.Proofs.YtameoapnhmoleaaW.PrintMore
open PP

theorem NKr.mono {w : World} {ok ok' : Nat → Prop} {base K : Nat} {hs : List Hd} {ms : List Int} {vm vk : Value} (h : NKr w ok base K hs ms vm vk) (ho : ∀ k, ok k → ok' k) : NKr w ok' base K hs ms vm vk :=
  ⟨h.blk, h.bK, ho _ h.okK, R_flat flatH h.rm (fun _ _ => rfl) (fun k hk => ho k (h.rm.1 k hk)), R_flat flatI h.rk (fun _ _ => rfl) (fun k hk => ho k (h.rk.1 k hk))⟩
theorem Fam.mono {w : World} {ok ok' : Nat → Prop} {hs : List Hd} {ms : List Int} (h : Fam w ok hs ms) (ho : ∀ k, ok k → ok' k) : Fam w ok' hs ms :=
  ⟨h.len, fun j hj hn => by obtain ⟨g, e, o, c, f⟩ := h.ent j hj hn; exact ⟨g, e, ho g o, c, f⟩, h.sep⟩
def HoldPost (w : World) (ok0 : Nat → Prop) (base K L : Nat) (m : Int) (e : Ending) (w' : World) : Prop :=
  e = .returned (.tuple #[]) ∧ ∃ hs ms vm vk x, HI w w' ok0 (fun k => ok0 k ∨ w.heap.size ≤ k) base K (L + 41) hs ms vm vk m x
theorem mkM_mem {w : World} {base : Nat} {ok : Nat → Prop} (m : Int) : k36.M w base ok (mkM m) [.int .i64 (-9), .int .i64 m, .int .i64 0, .int .i64 0] := k36_mem _ _ _ _
set_option maxRecDepth 100000 in
set_option maxHeartbeats 8000000 in
theorem hold_any (ok0 : Nat → Prop) (base K : Nat) (hs : List Hd) (ms : List Int) (vm vk : Value) (A : Option Addr) (n c : Nat) (m : Int) (w : World) (hst : NKr w ok0 base K hs ms vm vk) (hfam : Fam w ok0 hs ms)
    (hfar : k36.R 36 w base ok0 (.slice A n c) (List.replicate n (mkM m))) (hmine : ∀ j, j < hs.length → 0 < (hs.getD j zH).n → (hs.getD j zH).a = A → rd ms (j : Nat) = m ∧ (hs.getD j zH).n ≤ n)
    (hb : base ≤ w.heap.size) (hl : hs.length ≤ 100000) (hn : n ≤ 100000) (hbnd : ∀ j, j < hs.length → (hs.getD j zH).n ≤ 1000000) : Calls Try.prog 30 #[.pointer (some ⟨K, 0, none⟩), .slice A n c, .int .i64 m] w (HoldPost w ok0 base K hs.length m) := by
  obtain ⟨ok, hok⟩ : ∃ ok : Nat → Prop, ok = fun k => ok0 k ∨ w.heap.size ≤ k := ⟨_, rfl⟩
  have hsub : ∀ k, ok k → ok0 k ∨ w.heap.size ≤ k := fun k hk => by rw [hok] at hk; exact hk
  have hup : ∀ k, ok0 k → ok k := fun k hk => by rw [hok]; exact .inl hk
  have HNEW : Hid (∀ k, w.heap.size ≤ k → ok k) := Lib.hid (fun k hk => by rw [hok]; exact .inr hk)
  have HOK := Lib.hid hok
  have HSUB := Lib.hid hsub
  have h0 : HI w w ok0 ok base K hs.length hs ms vm vk m ⟨A, n, c⟩ := ⟨hst.mono hup, hfam.mono hup, R_flat flat36 hfar (fun _ _ => rfl) (fun k hk => hup k (hfar.1 k hk)), hmine, Nat.le_refl _, Fr.refl w _, hbnd, by show n ≤ _; omega⟩
  have H0 := Lib.hid h0
  have HL := Lib.hid hfam.len
  have HB := Lib.hid hb
  clear hok hsub hup hst hfam hfar hmine h0 hbnd
  obtain ⟨c0, c1, c2, c3⟩ := cells4b H0.out.st.blk
  have hltK := H0.out.st.lt
  go_enter Try.func30, Try.ntmps30
  go_upto_region 1 with (first | (at_builtin; refine far_append kH (W := w) base rfl (.tmp 12) (.tmp 14) 45 22 (.slice none 0 0) 24 rfl Try.underlying45 info22 rfl (by decide) (by decide) vm hs ⟨A, n, c⟩ [.slice A n c] ok rfl rfl rfl HNEW.out H0.out.st.rm HB.out (by omega) ?_; intro v1 w1 hR1 hg1 hat1; obtain ⟨A1, k1, e1⟩ := Kd.R_slice hR1; rw [List.length_append, List.length_singleton] at e1; subst e1; have hb1 := blk_grown H0.out.st.blk hg1 (Ne.symm (row_ne H0.out.st.rm H0.out.st.blk (by decide))); have d1 := (cells4b hb1).2.1; have z1 := blk_frozen hb1 1; have HP := Lib.hid (H0.out.push HSUB.out hR1 hg1 (hat1.imp id (fun h => h.1))); have HG1 := Lib.hid hg1; clear hR1 hg1 hat1 hb1))
  obtain ⟨h1, h2, h3, h4⟩ := HP.out
  have H1 := Lib.hid h1
  have H2 := Lib.hid h2
  have H3 := Lib.hid h3
  have H4 := Lib.hid h4
  clear c0 c1 c2 c3 d1 z1 HP HG1 hltK h1 h2 h3 h4
  generalize hW2 : w1.setCell ⟨K, 1, none⟩ (.slice A1 (hs.length + 1) k1) = W2 at *
  clear hW2
  have HW2 := Lib.hid H2.out.size
  obtain ⟨c0, c1, c2, c3⟩ := cells4b H1.out.blk
  have hltK := H1.out.lt
  have hml : ms.length = hs.length := HL.out.symm
  have HML := Lib.hid hml
  clear hml
  go_upto_region 2 with (first | (at_builtin; refine far_append kI (W := W2) base rfl (.tmp 22) (.tmp 24) 42 3 (.int .i64 0) 8 rfl Try.underlying42 info3 rfl (by decide) (by decide) vk ms m [.int .i64 m] ok rfl rfl rfl (fun k hk => HNEW.out k (by have := HW2.out; omega)) H1.out.rk (by have := HW2.out; have := HB.out; omega) (by have := HML.out; omega) ?_; intro v1 w3 hR1 hg1 hat1; obtain ⟨A3, k3, e3⟩ := Kd.R_slice hR1; rw [List.length_append, List.length_singleton] at e3; subst e3; have hb1 := blk_grown H1.out.blk hg1 (Ne.symm (row_ne H1.out.rk H1.out.blk (by decide))); have d3 := (cells4b hb1).2.2.2; have z3 := blk_frozen hb1 3; have HM := Lib.hid (HI.mark (wp := w) H1.out H2.out H3.out H4.out H0.out.mine H0.out.num H0.out.bnd H0.out.xb HSUB.out hR1 hg1 (hat1.imp id (fun h => h.1))); clear hR1 hg1 hat1 hb1))
  clear c0 c1 c2 c3 d3 z3 hltK H1 H2 H3 H4
  generalize hW4 : w3.setCell ⟨K, 3, none⟩ (.slice A3 (ms.length + 1) k3) = W4 at *
  clear hW4
  go_wp2_with fail
  go_loopw [6, 7] (fun f i wr => ∃ (q : Nat) (A1 : Option Addr) (c1 : Nat), q ≤ 40 ∧ i = .int .i64 q ∧ f = .slice A1 (n + q) c1 ∧ Hid (∃ hs1 ms1 vm1 vk1, HI w wr ok0 ok base K (hs.length + 1 + q) hs1 ms1 vm1 vk1 m ⟨A1, n + q, c1⟩)) (fun _ i _ => 40 - (intOf i).toNat)
  case atStart => exact ⟨0, A, c, by omega, rfl, rfl, Lib.hid ⟨_, _, _, _, HM.out⟩⟩
  case round =>
    obtain ⟨q, A2, k2, hq, rfl, rfl, HS⟩ := hrel
    by_cases hlt : q < 40
    · obtain ⟨hs1, ms1, vm1, vk1, h5⟩ := HS.out
      have H5 := Lib.hid h5
      have HWR := Lib.hid h5.fr.size
      have HN5 := Lib.hid h5.num
      clear h5
      go_upto_region 7 with (first | (at_builtin; refine far_append k36 (W := wr) base rfl (.tmp 33) (.tmp 37) 22 36 zero36 32 rfl Try.underlying22 info36 size36 (by decide) (by decide) (.slice A2 (n + q) k2) (List.replicate (n + q) (mkM m)) (mkM m) [.int .i64 (-9), .int .i64 m, .int .i64 0, .int .i64 0] ok rfl rfl (mkM_mem m) (fun k hk => HNEW.out k (by have := HWR.out; omega)) H5.out.far (by have := HWR.out; have := HB.out; omega) (by rw [List.length_replicate]; omega) ?_; intro v1 w3 hR1 hg1 hat1; obtain ⟨A3, k3, e3⟩ := Kd.R_slice hR1; rw [List.length_append, List.length_replicate, List.length_singleton] at e3; subst e3; have HG := Lib.hid (H5.out.grow (by show n + q + 1 ≤ _; omega) HSUB.out hR1 hg1 hat1); clear hR1 hg1 hat1))
      clear H5 HWR
      have HW3 := Lib.hid HG.out.fr.size
      have hnm := HG.out.num
      have hml := HG.out.fam.len
      have HNM := Lib.hid (show hs1.length ≤ 200000 ∧ ms1.length ≤ 200000 from by omega)
      clear hnm hml
      by_cases hput : q < 16 ∨ q = 39
      · have hcs : decide ((q : Int) < 16) = true ∨ (decide ((q : Int) < 16) = false ∧ ((q : Int) == 39) = true) := by
          rcases hput with h | h
          · exact .inl (decide_eq_true (by omega))
          · exact .inr ⟨decide_eq_false (by omega), by simp; omega⟩
        rcases hcs with e1 | ⟨e1, e2⟩
        all_goals
          obtain ⟨c0, c1, c2, c3⟩ := cells4b HG.out.st.blk
          have hltK := HG.out.st.lt
          go_upto_region 9 with (first | (at_builtin; refine far_append kH (W := w3) base rfl (.tmp 49) (.tmp 51) 45 22 (.slice none 0 0) 24 rfl Try.underlying45 info22 rfl (by decide) (by decide) vm1 hs1 ⟨A3, n + q + 1, k3⟩ [.slice A3 (n + q + 1) k3] ok rfl rfl rfl (fun k hk => HNEW.out k (by have := HW3.out; omega)) HG.out.st.rm (by have := HW3.out; have := HB.out; omega) (by have := HNM.out; omega) ?_; intro v1 w4 hR1 hg1 hat1; obtain ⟨A4, k4, e4⟩ := Kd.R_slice hR1; rw [List.length_append, List.length_singleton] at e4; subst e4; have hb1 := blk_grown HG.out.st.blk hg1 (Ne.symm (row_ne HG.out.st.rm HG.out.st.blk (by decide))); have d1 := (cells4b hb1).2.1; have z1 := blk_frozen hb1 1; have HP := Lib.hid (HG.out.push HSUB.out hR1 hg1 (hat1.imp id (fun h => h.1))); clear hR1 hg1 hat1 hb1))
          obtain ⟨h1, h2, h3, h4⟩ := HP.out
          have H1 := Lib.hid h1
          have H2 := Lib.hid h2
          have H3 := Lib.hid h3
          have H4 := Lib.hid h4
          clear c0 c1 c2 c3 d1 z1 HP hltK h1 h2 h3 h4
          generalize hW5 : w4.setCell ⟨K, 1, none⟩ (.slice A4 (hs1.length + 1) k4) = W5 at *
          clear hW5
          have HW5 := Lib.hid H2.out.size
          obtain ⟨c0, c1, c2, c3⟩ := cells4b H1.out.blk
          have hltK := H1.out.lt
          go_wp2_with (first | (at_builtin; refine far_append kI (W := W5) base rfl (.tmp 59) (.tmp 61) 42 3 (.int .i64 0) 8 rfl Try.underlying42 info3 rfl (by decide) (by decide) vk1 ms1 m [.int .i64 m] ok rfl rfl rfl (fun k hk => HNEW.out k (by have := HW5.out; omega)) H1.out.rk (by have := HW5.out; have := HB.out; omega) (by have := HNM.out; omega) ?_; intro v1 w6 hR1 hg1 hat1; obtain ⟨A6, k6, e6⟩ := Kd.R_slice hR1; rw [List.length_append, List.length_singleton] at e6; subst e6; have hb1 := blk_grown H1.out.blk hg1 (Ne.symm (row_ne H1.out.rk H1.out.blk (by decide))); have d3 := (cells4b hb1).2.2.2; have z3 := blk_frozen hb1 3; have HM := Lib.hid (HI.mark (wp := w) H1.out H2.out H3.out H4.out HG.out.mine HG.out.num HG.out.bnd HG.out.xb HSUB.out hR1 hg1 (hat1.imp id (fun h => h.1))); clear hR1 hg1 hat1 hb1))
          go_roundw
          case rel => exact ⟨q + 1, A3, k3, by omega, by go_num, rfl, Lib.hid ⟨_, _, _, _, HM.out⟩⟩
          case measure => simp [intOf]; omega
      · have e1 : decide ((q : Int) < 16) = false := decide_eq_false (by omega)
        have e2 : ((q : Int) == 39) = false := by simp; omega
        go_wp2_with fail
        go_roundw
        case rel => exact ⟨q + 1, A3, k3, by omega, by go_num, rfl, Lib.hid ⟨hs1, ms1, vm1, vk1, { HG.out with num := by have := HG.out.num; omega }⟩⟩
        case measure => simp [intOf]; omega
    · obtain rfl : q = 40 := by omega
      go_wp2_with fail
      go_end0
      obtain ⟨hs1, ms1, vm1, vk1, h5⟩ := HS.out
      rw [HOK.out] at h5
      exact ⟨rfl, hs1, ms1, vm1, vk1, _, h5⟩
end Go.Proofs.Ytameoapnhmoleaa
