/- A list of moves copied into room; what MovesAll calls, plain (chapter 13). The state of MovesAll, plain (chapter 13). MovesAll, walked (chapter 13). -/
import Derived.Test.YtameoapnhmoleaaKH
import Derived.Test.YtameoapnhmoleaaPP8
import Derived.Laws.IdiomCopy
import Derived.Test.YtameoapnhmoleaaX4
set_option linter.unusedVariables false
set_option linter.unusedSimpArgs false
namespace Go.Proofs.Ytameoapnhmoleaa
open Go.RowKit Go.Proofs.YtameoapnhmoleaaW.PrintWords Go.Proofs.YtameoapnhmoleaaW.PrintLast Go.Proofs.YtameoapnhmoleaaW.PrintMore
open PP

theorem news_one {w : World} {l : List Mv} {news : List Value} (h : Reps (k36.K w) 4 l news) : ∀ u ∈ news, u.oneCell' = true := by
  intro u hu
  obtain ⟨q, hq, rfl⟩ := List.mem_iff_getElem.1 hu
  have hql : q / 4 < l.length := by have := h.1; omega
  have hc := h.2 (q / 4) _ (List.getElem?_eq_getElem hql)
  refine k36.K_one hc _ ?_
  rw [List.mem_iff_getElem?]
  refine ⟨q % 4, ?_⟩
  rw [List.getElem?_take_of_lt (Nat.mod_lt _ (by decide)), List.getElem?_drop, show q / 4 * 4 + q % 4 = q by omega, List.getElem?_eq_getElem hq]
theorem C_of_news {w w' : World} {l : List Mv} {news : List Value} {ad : Addr} (h : Reps (k36.K w) 4 l news) (hl : l.length ≤ 9223372036854775807) (hc : ∀ j u, news[j]? = some u → w'.cell? (ad.add j) = some u) : Kd.C k36 w' (some ad) l.length l := by
  refine ⟨rfl, hl, fun _ => ⟨ad, rfl, fun j p hj => ?_⟩⟩
  have hp := h.2 j p hj
  have hcs := k36_open hp
  refine ⟨_, rfl, (k36_mk w' p), fun i u hu => hc _ _ ?_⟩
  rw [← hcs] at hu
  have hi : i < 4 := by
    rcases Nat.lt_or_ge i 4 with h4 | h4
    · exact h4
    · rw [List.getElem?_eq_none (by rw [List.length_take]; omega)] at hu; cases hu
  rw [List.getElem?_take_of_lt hi, List.getElem?_drop] at hu
  exact hu
/-- A block of room for 60 moves. -/
def Room (w : World) (g : Nat) : Prop := ∃ cur : Array Value, w.heap[g]? = some (.cells cur 36 (0, 0)) ∧ 240 ≤ cur.size
theorem copy_any (w : World) (g : Nat) (A : Option Addr) (n c cap : Nat) (l : List Mv) (hR : Room w g) (hC : Kd.C k36 w A n l) (hn : n ≤ 60) (ty : TypeId) :
    ∃ w', (Builtin.copy_ #[22, 22] ty #[.slice (some ⟨g, 0, none⟩) n cap, .slice A n c]).run Try.prog w = .ok (goInt n) w' ∧ Room w' g ∧ Kd.C k36 w' (some ⟨g, 0, none⟩) n l ∧ Fr w w' (fun k => k = g) := by
  obtain ⟨cur, hg, hs⟩ := hR
  obtain ⟨i, hi, hz⟩ := Option.map_eq_some_iff.1 info36
  simp only [Prod.mk.injEq] at hz
  obtain ⟨_, hz1, _⟩ := hz
  have hsz : i.size = 4 := hz1
  obtain rfl := hC.1
  rcases Nat.eq_zero_or_pos l.length with h0 | hp
  · obtain rfl : l = [] := List.eq_nil_of_length_eq_zero h0
    refine ⟨w, ?_, ⟨cur, hg, hs⟩, ⟨rfl, by simp, fun h => absurd h (Nat.not_lt_zero _)⟩, Fr.refl w _⟩
    have hl : ∀ (x : Addr), (loadCells x 0).run Try.prog w = .ok #[] w := fun x => by simpa using run_loadCells_list (P := Try.prog) w x [] (by simp)
    cases A <;> simp [Builtin.copy_, run_underlying Try.underlying22, Builtin.lenOf, Builtin.firstCells, sizeOf, typeInfo, hi, storeCells, hl]
  · obtain ⟨ad, rfl, _⟩ := hC.2.2 hp
    obtain ⟨news, hr, hc⟩ := ReadsRow.inner_ hC
    have hr : Reps (k36.K w) 4 l news := hr
    have hnl : news.length = l.length * 4 := hr.1
    have hl := run_loadCells_list (P := Try.prog) w ad news hc
    have hst := run_storeCells_at Try.prog g 0 36 news 0 cur w hg (by omega) (news_one hr)
    refine ⟨w.setRow g (cur.toList.take (0 + 0) ++ news ++ cur.toList.drop (0 + 0 + news.length)).toArray, ?_, ⟨_, setRow_heap w g cur _ 36 (0, 0) hg, by simp; omega⟩, ?_, ?_⟩
    · simp [Builtin.copy_, run_underlying Try.underlying22, Builtin.lenOf, Builtin.firstCells, sizeOf, typeInfo, hi, hsz, ← hnl, hl, hst]
    · refine C_of_news hr (by omega) (fun j u hu => ?_)
      have hj : j < news.length := (List.getElem?_eq_some_iff.1 hu).1
      rw [show (⟨g, 0, none⟩ : Addr).add j = ⟨g, j, none⟩ from by unfold Addr.add; split <;> simp_all]
      rw [cell_of_row _ g j _ 36 (0, 0) (setRow_heap w g cur _ 36 (0, 0) hg)]
      simp only [Nat.zero_add, List.take_zero, List.nil_append, List.getElem?_toArray]
      rw [List.getElem?_append_left hj, hu]
    · exact ⟨rfl, rfl, rfl, by simp [World.setRow], fun k hk hne => setRow_other w g k _ hne⟩
theorem cell_older {w w' : World} {a : Addr} {v : Value} (hb : Below w.heap.size w w') (hc : w.cell? a = some v) : w'.cell? a = some v := by
  have hlt : a.block < w.heap.size := by
    rcases Nat.lt_or_ge a.block w.heap.size with h | h
    · exact h
    · unfold World.cell? at hc
      rw [Array.getElem?_eq_none h] at hc
      cases hc
  exact (hb.cell hlt).trans hc
/-- A copy whose run is known. -/
theorem copy_step {P : Program} (w : World) {ops : Array Oper} {rest : List Oper} {o : Oper} {a : Act} {Q : Exit → Act → World → Prop} (hgd : o.guard = none) (d s : Operand) (t t' : TypeId)
    (ho : o.op = .call { callee := .builtin .copy, args := #[d, s], argTypes := #[t, t'] }) (v u : Value) (hd : a.eval d = v) (hs : a.eval s = u) {v' : Value} {w' : World}
    (hr : (Builtin.copy_ #[t, t'] o.type #[v, u]).run P w = .ok v' w') (h : wpList P ops Q rest (a.put o.dst v') w') : wpList P ops Q (o :: rest) a w := by
  refine wpList_plain hgd fun K hK => ?_
  unfold Oper.wp execOp
  simp only [ho, resolve, invoke, builtin, Sem.run_bind, Sem.run_pure, Result.andThen_ok, List.map_toArray, List.map_cons, List.map_nil, hd, hs, hr]
  exact hK _ _ h
/-- What the document and the program answer of a short list. -/
theorem orders (l : List Mv) (t0 t1 : Int) (hl : l.length ≤ 60) : ∃ (o : List Mv) (f : Int), o.length ≤ 1000 ∧
    (∀ (A : Option Addr) (c : Nat) (w : World), Kd.C k36 w A l.length l → l.length ≤ c → Calls Try.prog 12 #[.slice A l.length c, .agg #[.int .i64 t0, .int .i64 t1]] w fun e w' => ∃ v : Value, e = .returned (.tuple #[v, .int .i64 f]) ∧ Kd.R k36 36 w' w.heap.size (fun _ => True) v o ∧ Below w.heap.size w w') ∧
    (∀ (A : Option Addr) (c : Nat) (w : World), Kd.C k36 w A l.length l → l.length ≤ c → Calls Try.prog 10 #[.slice A l.length c, .agg #[.int .i64 t0, .int .i64 t1]] w fun e w' => ∃ v : Value, e = .returned (.tuple #[v, .int .i64 f]) ∧ Kd.R k36 36 w' w.heap.size (fun _ => True) v o ∧ Below w.heap.size w w') := by
  obtain ⟨o, ⟨K, hK⟩, h1, h2⟩ := rorder_ev l ⟨t0, t1⟩ (by omega)
  have e := hK K (Nat.le_refl _)
  simp only at e
  refine ⟨o, refuseK l ⟨t0, t1⟩, ?_, fun A c w hC hc => quernref13_Order.calls K A c l t0 t1 o _ w hC hc e, fun A c w hC hc => moves_Order.calls K A c l t0 t1 o _ w hC hc (by rw [order_f (by omega)]; exact e)⟩
  by_cases hz : refuseK l ⟨t0, t1⟩ = 0
  · have := (h2 hz).2; omega
  · rw [h1 hz]; simp
theorem alive_any (w : World) : Calls Try.prog 8 #[] w fun e w' => e = .returned (.bool true) ∧ Below w.heap.size w w' := by
  obtain ⟨k, hk⟩ := alive_ev.rounds
  exact quernlaw13_alive.calls k true w hk
end Go.Proofs.Ytameoapnhmoleaa
set_option linter.unusedVariables false
set_option linter.unusedSimpArgs false
namespace Go.Proofs.Ytameoapnhmoleaa
open Go.RowKit Go.Proofs.YtameoapnhmoleaaW.PrintWords Go.Proofs.YtameoapnhmoleaaW.PrintLast Go.Proofs.YtameoapnhmoleaaW.PrintMore
open PP

theorem NKr.tight {w : World} {ok : Nat → Prop} {base K : Nat} {hs : List Hd} {ms : List Int} {vm vk : Value} (h : NKr w ok base K hs ms vm vk) : NKr w (fun k => ok k ∧ k < w.heap.size) base K hs ms vm vk :=
  ⟨h.blk, h.bK, ⟨h.okK, h.lt⟩, R_flat flatH h.rm (fun _ _ => rfl) (fun k hk => ⟨h.rm.1 k hk, IsWV.rowlt h.rm k hk⟩), R_flat flatI h.rk (fun _ _ => rfl) (fun k hk => ⟨h.rk.1 k hk, IsWV.rowlt h.rk k hk⟩)⟩
theorem Fam.tight {w : World} {ok : Nat → Prop} {hs : List Hd} {ms : List Int} (h : Fam w ok hs ms) : Fam w (fun k => ok k ∧ k < w.heap.size) hs ms :=
  ⟨h.len, fun j hj hn => by obtain ⟨g, e, o, ⟨cur, c⟩, f⟩ := h.ent j hj hn; exact ⟨g, e, ⟨o, blk_lt c⟩, ⟨cur, c⟩, f⟩, h.sep⟩
structure SA (w wr : World) (N L gr gb : Nat) (okN okL : Nat → Prop) (hsN : List Hd) (msN : List Int) (vmN vkN : Value) (hsL wsL : List Hd) (vmL vwL : Value) (t0 t1 : Int) (j jl : Nat) : Prop where
  nk : NKr wr okN w.heap.size N hsN msN vmN vkN
  nf : Fam wr okN hsN msN
  nn : hsN.length ≤ 41 * j
  nb : ∀ p, p < hsN.length → (hsN.getD p zH).n ≤ 1000000
  lk : LKr wr okL w.heap.size L hsL wsL vmL vwL
  lf : Late wr okL w.heap.size hsL wsL
  ln : hsL.length ≤ jl
  rm : Room wr gr
  bx : wr.heap[gb]? = some (.cells #[.int .i64 t0, .int .i64 t1] 24 (0, 0))
  dj : ∀ k, okN k → ¬ okL k ∧ k ≠ gr ∧ k ≠ gb ∧ k < wr.heap.size ∧ w.heap.size ≤ k
  dl : ∀ k, okL k → k ≠ gr ∧ k ≠ gb ∧ k < wr.heap.size ∧ w.heap.size ≤ k
  bel : Below w.heap.size w wr
  hgr : w.heap.size ≤ gr
section
variable {w wr w1 : World} {N L gr gb : Nat} {okN okL : Nat → Prop} {hsN : List Hd} {msN : List Int} {vmN vkN : Value} {hsL wsL : List Hd} {vmL vwL : Value} {t0 t1 : Int} {j jl : Nat} {va vb : Value} {o : List Mv} {x : Hd} {e : Ending}
theorem Room.lt (h : Room w gr) : gr < w.heap.size := by obtain ⟨_, h, _⟩ := h; exact blk_lt h
theorem SA.room (h : SA w wr N L gr gb okN okL hsN msN vmN vkN hsL wsL vmL vwL t0 t1 j jl) (hF : Fr wr w1 (fun k => k = gr)) (hR : Room w1 gr) : SA w w1 N L gr gb okN okL hsN msN vmN vkN hsL wsL vmL vwL t0 t1 j jl := by
  have hb : ∀ k, k < wr.heap.size → k ≠ gr → w1.heap[k]? = wr.heap[k]? := fun k hk hne => hF.2.2.2.2 k hk hne
  have hs := hF.size
  refine ⟨h.nk.kept (fun g hg hlt => hb g hlt (h.dj g hg).2.1), h.nf.kept (fun g cur hg hc => hb g (blk_lt hc) (h.dj g hg).2.1), h.nn, h.nb, h.lk.kept (fun g hg hlt => hb g hlt (h.dl g hg).1), h.lf.kept (fun g cur hg hc => hb g (blk_lt hc) (h.dl g hg).1), h.ln, hR, (hb gb (blk_lt h.bx) (fun e => ?_)).trans h.bx, fun k hk => ?_, fun k hk => ?_, ?_, h.hgr⟩
  · obtain ⟨cur, hc, _⟩ := h.rm
    rw [← e] at hc
    exact absurd (blk_diff hc h.bx) (by decide)
  · obtain ⟨a, b, c, d, e⟩ := h.dj k hk
    exact ⟨a, b, c, by omega, e⟩
  · obtain ⟨b, c, d, e⟩ := h.dl k hk
    exact ⟨b, c, by omega, e⟩
  · exact below_fr h.bel h.bel.size hF (fun k hk => by rw [hk]; exact h.hgr)
theorem SA.below (h : SA w wr N L gr gb okN okL hsN msN vmN vkN hsL wsL vmL vwL t0 t1 j jl) (hB : Below wr.heap.size wr w1) : SA w w1 N L gr gb okN okL hsN msN vmN vkN hsL wsL vmL vwL t0 t1 j jl := by
  obtain ⟨cur, hc, hs⟩ := h.rm
  exact h.room (Fr.of_below hB _) ⟨cur, blk_below hc hB, hs⟩
theorem SA.draws (h : SA w wr N L gr gb okN okL hsN msN vmN vkN hsL wsL vmL vwL t0 t1 j jl) (q : Nat) : SA w (wr.drewN q) N L gr gb okN okL hsN msN vmN vkN hsL wsL vmL vwL t0 t1 j jl :=
  h.below ⟨rfl, rfl, rfl, Nat.le_refl _, fun _ _ => rfl⟩
theorem SA.late (h : SA w wr N L gr gb okN okL hsN msN vmN vkN hsL wsL vmL vwL t0 t1 j jl) (hf : ∀ k, vb.ownBlock = some k → ¬ okN k ∧ k ≠ gr ∧ k ≠ gb ∧ w.heap.size ≤ k)
    (hp : LRowPost wr (fun k => okL k ∨ vb.ownBlock = some k) w.heap.size L hsL wsL x e w1) :
    ∃ y vm vw, SA w w1 N L gr gb okN (fun k => ((okL k ∨ vb.ownBlock = some k) ∨ wr.heap.size ≤ k) ∧ k < w1.heap.size) hsN msN vmN vkN (hsL ++ [x]) (wsL ++ [y]) vm vw t0 t1 j (jl + 1) := by
  obtain ⟨_, y, vm, vw, h1, h2, hF⟩ := hp
  have hb : ∀ k, k < wr.heap.size → ¬ okL k → vb.ownBlock ≠ some k → w1.heap[k]? = wr.heap[k]? := fun k hk hne hne2 => hF.2.2.2.2 k hk (fun h => h.elim hne hne2)
  have hs := hF.size
  obtain ⟨cur, hc, hcs⟩ := h.rm
  have hgb := blk_lt h.bx
  have hgr := blk_lt hc
  have hbase := h.bel.size
  have r1 : w1.heap[gr]? = wr.heap[gr]? := hb gr hgr (fun hk => (h.dl gr hk).1 rfl) (fun hk => (hf gr hk).2.1 rfl)
  have r2 : w1.heap[gb]? = wr.heap[gb]? := hb gb hgb (fun hk => (h.dl gb hk).2.1 rfl) (fun hk => (hf gb hk).2.2.1 rfl)
  refine ⟨y, vm, vw, h.nk.kept (fun g hg hlt => hb g hlt (h.dj g hg).1 (fun hk => (hf g hk).1 hg)), h.nf.kept (fun g cur hg hc => hb g (blk_lt hc) (h.dj g hg).1 (fun hk => (hf g hk).1 hg)), h.nn, h.nb, h1.tight, h2.tight, by have := h.ln; simp; omega, ⟨cur, r1.trans hc, hcs⟩, r2.trans h.bx, fun k hk => ?_, fun k hk => ?_, ?_, h.hgr⟩
  · obtain ⟨a, b, c, d, e⟩ := h.dj k hk
    refine ⟨?_, b, c, by omega, e⟩
    rintro ⟨(a' | a') | a', _⟩
    · exact a a'
    · exact (hf k a').1 hk
    · omega
  · rcases hk with ⟨(a' | a') | a', hlt⟩
    · obtain ⟨b, c, d, e⟩ := h.dl k a'
      exact ⟨b, c, hlt, e⟩
    · obtain ⟨_, b, c, e⟩ := hf k a'
      exact ⟨b, c, hlt, e⟩
    · exact ⟨by omega, by omega, hlt, by omega⟩
  · refine below_fr h.bel hbase hF ?_
    rintro k (a' | a')
    · exact (h.dl k a').2.2.2
    · exact (hf k a').2.2.2
theorem SA.now (h : SA w wr N L gr gb okN okL hsN msN vmN vkN hsL wsL vmL vwL t0 t1 j jl) (hf : ∀ k, va.ownBlock = some k → ¬ okL k ∧ k ≠ gr ∧ k ≠ gb ∧ w.heap.size ≤ k)
    (hp : RowPost w wr (fun k => okN k ∨ va.ownBlock = some k) N hsN.length e w1) :
    ∃ okN' hs ms vm vk, SA w w1 N L gr gb okN' okL hs ms vm vk hsL wsL vmL vwL t0 t1 (j + 1) jl := by
  obtain ⟨_, hs', ms, vm, vk, h1, h2, h3, hF, h4⟩ := hp
  have hb : ∀ k, k < wr.heap.size → ¬ okN k → va.ownBlock ≠ some k → w1.heap[k]? = wr.heap[k]? := fun k hk hne hne2 => hF.2.2.2.2 k hk (fun h => h.elim hne hne2)
  have hs := hF.size
  obtain ⟨cur, hc, hcs⟩ := h.rm
  have hgb := blk_lt h.bx
  have hgr := blk_lt hc
  have hbase := h.bel.size
  have r1 : w1.heap[gr]? = wr.heap[gr]? := hb gr hgr (fun hk => (h.dj gr hk).2.1 rfl) (fun hk => (hf gr hk).2.1 rfl)
  have r2 : w1.heap[gb]? = wr.heap[gb]? := hb gb hgb (fun hk => (h.dj gb hk).2.2.1 rfl) (fun hk => (hf gb hk).2.2.1 rfl)
  refine ⟨fun k => ((okN k ∨ va.ownBlock = some k) ∨ wr.heap.size ≤ k) ∧ k < w1.heap.size, hs', ms, vm, vk, h1.tight, h2.tight, by have := h.nn; omega, h4, h.lk.kept (fun g hg hlt => hb g hlt (fun hk => (h.dj g hk).1 hg) (fun hk => (hf g hk).1 hg)), h.lf.kept (fun g cur hg hc => hb g (blk_lt hc) (fun hk => (h.dj g hk).1 hg) (fun hk => (hf g hk).1 hg)), h.ln, ⟨cur, r1.trans hc, hcs⟩, r2.trans h.bx, fun k hk => ?_, fun k hk => ?_, ?_, h.hgr⟩
  · rcases hk with ⟨(a' | a') | a', hlt⟩
    · obtain ⟨a, b, c, d, e⟩ := h.dj k a'
      exact ⟨a, b, c, hlt, e⟩
    · obtain ⟨a, b, c, e⟩ := hf k a'
      exact ⟨a, b, c, hlt, e⟩
    · exact ⟨fun hk => by have := (h.dl k hk).2.2.1; omega, by omega, by omega, hlt, by omega⟩
  · obtain ⟨b, c, d, e⟩ := h.dl k hk
    exact ⟨b, c, by omega, e⟩
  · refine below_fr h.bel hbase hF ?_
    rintro k (a' | a')
    · exact (h.dj k a').2.2.2.2
    · exact (hf k a').2.2.2
theorem SA.fresh (h : SA w wr N L gr gb okN okL hsN msN vmN vkN hsL wsL vmL vwL t0 t1 j jl) {v : Value} (hv : ∀ k, v.ownBlock = some k → wr.heap.size ≤ k) : ∀ k, v.ownBlock = some k → ¬ okN k ∧ ¬ okL k ∧ k ≠ gr ∧ k ≠ gb ∧ w.heap.size ≤ k := by
  intro k hk
  have h1 := hv k hk
  have h2 := h.rm.lt
  have h3 := blk_lt h.bx
  have h4 := h.bel.size
  exact ⟨fun h' => by have := (h.dj k h').2.2.2.1; omega, fun h' => by have := (h.dl k h').2.2.1; omega, by omega, by omega, by omega⟩
theorem SA.apart (h : SA w wr N L gr gb okN okL hsN msN vmN vkN hsL wsL vmL vwL t0 t1 j jl) {v : Value} (hv : ∀ k, v.ownBlock = some k → wr.heap.size ≤ k) :
    (∀ j, j < hsL.length → NeRow (encH (hsL.getD j zH)) v) ∧ (∀ j, j < wsL.length → NeRow v (encH (wsL.getD j zH))) := by
  refine ⟨fun i hi k hk hk' => ?_, fun i hi k hk' hk => ?_⟩
  · obtain ⟨xs, _, r1, _⟩ := h.lf.ent i hi
    exact ((h.fresh hv) k hk').2.1 (r1.1 k hk)
  · obtain ⟨xs, _, _, r2⟩ := h.lf.ent i (by have := h.lf.len; omega)
    exact ((h.fresh hv) k hk').2.1 (r2.1 k hk)
theorem SA.notMine (h : SA w wr N L gr gb okN okL hsN msN vmN vkN hsL wsL vmL vwL t0 t1 j jl) {A : Option Addr} {n c : Nat} (hv : ∀ k, (Value.slice A n c).ownBlock = some k → wr.heap.size ≤ k) : ∀ j, j < hsN.length → 0 < (hsN.getD j zH).n → (hsN.getD j zH).a ≠ A := by
  intro i hi hn e
  obtain ⟨g, e1, ho, _, _⟩ := h.nf.ent i hi hn
  have := hv g (by rw [← e, e1]; simp [Value.ownBlock])
  have := (h.dj g ho).2.2.2.1
  omega
end
theorem row_of_new {w0 w1 : World} {base : Nat} {v : Value} {o : List Mv} (h : k36.R 36 w1 w0.heap.size (fun _ => True) v o) (hb : base ≤ w0.heap.size) :
    k36.R 36 w1 base (fun k => v.ownBlock = some k) v o ∧ ∀ k, v.ownBlock = some k → w0.heap.size ≤ k ∧ k < w1.heap.size :=
  ⟨R_flat flat36 (Kd.R_lower h hb) (fun _ _ => rfl) (fun _ hk => hk), fun k hk => ⟨(row_block h hk).1, IsWV.rowlt h k hk⟩⟩
end Go.Proofs.Ytameoapnhmoleaa
set_option linter.unusedVariables false
set_option linter.unusedSimpArgs false
namespace Go.Proofs.Ytameoapnhmoleaa
open Go.RowKit Go.Proofs.YtameoapnhmoleaaW.PrintWords Go.Proofs.YtameoapnhmoleaaW.PrintLast Go.Proofs.YtameoapnhmoleaaW.PrintMore
open PP

theorem sa_start {w W2 W3 : World} {N L gb : Nat} {t0 t1 : Int} {v : Value} {ok : Nat → Prop} (hB : Below w.heap.size w W2) (hgb : W2.heap[gb]? = some (.cells #[.int .i64 t0, .int .i64 t1] 24 (0, 0)))
    (hN : W2.heap[N]? = some (.cells #[.bool false, .slice none 0 0, .slice none 0 0, .slice none 0 0] 48 (0, 0))) (hL : W2.heap[L]? = some (.cells #[.bool true, .slice none 0 0, .slice none 0 0, .slice none 0 0] 48 (0, 0)))
    (h0 : w.heap.size ≤ gb) (h1 : gb < N) (h2 : N < L) (hg : W2.grownBy W3 none) (hR : k36.R 36 W3 w.heap.size ok v (List.replicate 60 z36)) (hv : ∃ b, v.ownBlock = some b ∧ W2.heap.size ≤ b) :
    ∃ gr cap, v = .slice (some ⟨gr, 0, none⟩) 60 cap ∧ 60 ≤ cap ∧ SA w W3 N L gr gb (fun k => k = N) (fun k => k = L) [] [] (.slice none 0 0) (.slice none 0 0) [] [] (.slice none 0 0) (.slice none 0 0) t0 t1 0 0 := by
  obtain ⟨b, hb1, hb2⟩ := hv
  obtain ⟨inner, hi⟩ := Kd.R_own hR
  rcases hi.2 with ⟨e0, _⟩ | ⟨g, cap, cur, e0, hbg, hh, hnc, hcm, hcs, _⟩
  · rw [e0] at hb1; simp [Value.ownBlock] at hb1
  rw [List.length_replicate] at e0 hnc
  have hbg2 : b = g := by rw [e0] at hb1; simpa [Value.ownBlock] using hb1.symm
  subst hbg2
  have hk : ∀ {k : Nat} {o : Obj}, W2.heap[k]? = some o → W3.heap[k]? = some o ∧ k < W2.heap.size := fun hk => ⟨blk_grown hk hg (by simp), blk_lt hk⟩
  obtain ⟨n1, n2⟩ := hk hN
  obtain ⟨l1, l2⟩ := hk hL
  obtain ⟨g1, g2⟩ := hk hgb
  have hs := hg.size
  have hcs : cur.size = cap * 4 := hcs
  refine ⟨b, cap, e0, hnc, ⟨n1, by omega, rfl, Kd.R_nil _ _ _ _ _, Kd.R_nil _ _ _ _ _⟩, ⟨rfl, fun p hp => absurd hp (Nat.not_lt_zero p), fun p q hp => absurd hp (Nat.not_lt_zero p)⟩, Nat.zero_le _, fun p hp => absurd hp (Nat.not_lt_zero p),
    ⟨l1, by omega, rfl, Kd.R_nil _ _ _ _ _, Kd.R_nil _ _ _ _ _, fun k hk => by simp [Value.ownBlock] at hk⟩, ⟨rfl, fun p hp => absurd hp (Nat.not_lt_zero p), fun p q hp => absurd hp (Nat.not_lt_zero p), fun p q hp => absurd hp (Nat.not_lt_zero p)⟩, Nat.zero_le _, ⟨cur, hh, by omega⟩, g1, ?_, ?_, hB.grown hg hB.size (fun k hk => by cases hk), hbg⟩
  · rintro k rfl
    exact ⟨by omega, by omega, by omega, by omega, by omega⟩
  · rintro k rfl
    exact ⟨by omega, by omega, by omega, by omega⟩
set_option maxRecDepth 100000 in
set_option maxHeartbeats 8000000 in
theorem movesAll_any (A : Option Addr) (n c : Nat) (ls : List (List Mv)) (t0 t1 : Int) (w : World) (hC : Kd.C (Kd.slice 36 k36) w A n ls) (hnc : n ≤ c) :
    Calls Try.prog 7 #[.slice A n c, .agg #[.int .i64 t0, .int .i64 t1]] w fun e w' => e = .returned (.bool true) ∧ Below w.heap.size w w' := by
  have HC := Lib.hid hC
  have hu24 := Try.underlying24
  go_enter Try.func7, Try.ntmps7
  go_wp2_with fail
  refine (alive_any _).mono ?_
  rintro e w1 ⟨rfl, hb1⟩
  go_upto_region 4 with fail
  have hgb := blk_below (heap_alloc_new w (.cells #[.int .i64 t0, .int .i64 t1] 24)) hb1
  have hs1 := hb1.size
  rw [World.size_alloc] at hs1
  have hN := blk_alloc (heap_alloc_new w1 (.cells #[.bool false, .slice none 0 0, .slice none 0 0, .slice none 0 0] 48)) (.cells #[.bool true, .slice none 0 0, .slice none 0 0, .slice none 0 0] 48)
  have hL := heap_alloc_new (w1.alloc (.cells #[.bool false, .slice none 0 0, .slice none 0 0, .slice none 0 0] 48)) (.cells #[.bool true, .slice none 0 0, .slice none 0 0, .slice none 0 0] 48)
  rw [World.size_alloc] at hL
  have hgb2 := blk_alloc (blk_alloc hgb (.cells #[.bool false, .slice none 0 0, .slice none 0 0, .slice none 0 0] 48)) (.cells #[.bool true, .slice none 0 0, .slice none 0 0, .slice none 0 0] 48)
  have hB2 : Below w.heap.size w ((w1.alloc (.cells #[.bool false, .slice none 0 0, .slice none 0 0, .slice none 0 0] 48)).alloc (.cells #[.bool true, .slice none 0 0, .slice none 0 0, .slice none 0 0] 48)) :=
    ((((Below.refl w.heap.size w).alloc (Nat.le_refl _) _).trans (hb1.mono (by simp))).alloc (by omega) _).alloc (by simp; omega) _
  clear hb1 hgb
  generalize hW2 : (w1.alloc (.cells #[.bool false, .slice none 0 0, .slice none 0 0, .slice none 0 0] 48)).alloc (.cells #[.bool true, .slice none 0 0, .slice none 0 0, .slice none 0 0] 48) = W2 at *
  have hs2 : w.heap.size < w1.heap.size := by omega
  have hst : ∀ (W3 : World) (v : Value), W2.grownBy W3 none → k36.R 36 W3 w.heap.size (fun _ => True) v (List.replicate 60 z36) → (∃ b, v.ownBlock = some b ∧ W2.heap.size ≤ b) →
      ∃ gr cap, v = .slice (some ⟨gr, 0, none⟩) 60 cap ∧ 60 ≤ cap ∧ SA w W3 w1.heap.size (w1.heap.size + 1) gr w.heap.size (fun k => k = w1.heap.size) (fun k => k = w1.heap.size + 1) [] [] (.slice none 0 0) (.slice none 0 0) [] [] (.slice none 0 0) (.slice none 0 0) t0 t1 0 0 :=
    fun W3 v hg hR hv => sa_start hB2 hgb2 hN hL (Nat.le_refl _) hs2 (Nat.lt_succ_self _) hg hR hv
  have HST := Lib.hid hst
  clear hst
  have HB2 := Lib.hid hB2
  clear hB2 hgb2 hN hL hs1 hW2 hs2
  generalize w1.heap.size = N at *
  clear w1
  go_upto_region 5 with (first | ((with_reducible refine gate_dst (N := 23) rfl ?_); refine Kd.R_make k36 (w0 := w) (W := W2) w.heap.size 36 (by rfl) (by rfl) 22 (.const (.int .i64 60)) (.const (.int .i64 60)) (by rfl) 60 (by rfl) (by rfl) Try.underlying22 zero36 32 info36 size36 (by decide) (by decide) z36 (ok := fun _ => True) (okp := fun _ => True) (k36_mkM _ _ _ z36) (fun k hk => hk) trivial (by decide) (by decide) HB2.out HB2.out.size ?_; intro v1 w3 hR1 hB1 hg1 hat1; obtain ⟨gr, cap, e1, hcap, hsa⟩ := HST.out w3 v1 hg1 hR1 hat1; have HSA := Lib.hid hsa; clear hR1 hB1 hg1 hat1 hsa; subst e1))
  have HU := Lib.hid hu24
  go_wp2_with fail
  go_loopw [9] (fun i wr => ∃ j : Nat, j ≤ 30 ∧ j ≤ n ∧ i = .int .i64 j ∧ Hid (∃ okN okL hsN msN vmN vkN hsL wsL vmL vwL, SA w wr N (N + 1) gr w.heap.size okN okL hsN msN vmN vkN hsL wsL vmL vwL t0 t1 j j)) (fun i _ => 30 - (intOf i).toNat)
  case atStart => exact ⟨0, by omega, by omega, rfl, Lib.hid ⟨_, _, _, _, _, _, _, _, _, _, HSA.out⟩⟩
  case round =>
    obtain ⟨j, hj, hjn, rfl, HS⟩ := hrel
    obtain ⟨okN, okL, hsN, msN, vmN, vkN, hsL, wsL, vmL, vwL, h5⟩ := HS.out
    have H5 := Lib.hid h5
    clear h5 HS HSA
    by_cases hlt : j < n
    · have e1 : decide ((j : Int) < (n : Int)) = true := decide_eq_true (by omega)
      by_cases hlt3 : j < 30
      · have e2 : decide ((j : Int) < 30) = true := decide_eq_true (by omega)
        obtain ⟨ad, A0, c0, hA, hcell0, hc0, hCl⟩ := at_L4 HC.out (j : Int) (by omega) (by omega)
        subst hA
        rw [Int.toNat_natCast] at hcell0
        have hcell := cell_older H5.out.bel hcell0
        clear hcell0
        generalize rd_L4 ls (j : Int) = l at *
        have HCL := Lib.hid hCl
        clear hCl
        by_cases h60 : l.length ≤ 60
        · have e3 : decide ((l.length : Int) > 60) = false := decide_eq_false (by omega)
          have hji : (j : Int) < (n : Int) := by omega
          go_upto_region 11 with fail
          obtain ⟨w4, hr, hroom, hCx, hF⟩ := copy_any wr gr A0 l.length c0 cap l H5.out.rm (Kd.C_below HCL.out H5.out.bel) h60 3
          have H6 := Lib.hid (H5.out.room hF hroom)
          have HCX := Lib.hid hCx
          clear hroom hCx hF hcell
          go_upto_region 12 with (first | (refine copy_step wr rfl (.tmp 45) (.tmp 46) 22 22 rfl _ _ rfl rfl hr ?_))
          clear hr
          have f0 := (blk_cell H6.out.bx 0).trans rfl
          have f1 := (blk_cell H6.out.bx 1).trans rfl
          have hu := HU.out
          go_wp2_with fail
          clear f0 f1
          obtain ⟨o, fk, hol, o12, o10⟩ := orders l t0 t1 h60
          have HO12 := Lib.hid o12
          have HO10 := Lib.hid o10
          clear o12 o10
          refine (HO12.out A0 c0 w4 (Kd.C_below HCL.out H6.out.bel) hc0).mono ?_
          rintro e w5 ⟨vo, rfl, hRo, hB5⟩
          obtain ⟨Ao, co, eo⟩ := Kd.R_slice hRo
          subst eo
          have HRO := Lib.hid (Kd.R_reads' hRo)
          have H7 := Lib.hid (H6.out.below hB5)
          have HCX7 := Lib.hid (Kd.C_below HCX.out hB5)
          have HSZ5 := Lib.hid hB5.size
          clear hRo hB5 HCX
          have f0 := (blk_cell H7.out.bx 0).trans rfl
          have f1 := (blk_cell H7.out.bx 1).trans rfl
          go_wp2_with fail
          clear f0 f1
          refine (HO10.out (some ⟨gr, 0, none⟩) cap w5 HCX7.out (by omega)).mono ?_
          rintro e w6 ⟨va, rfl, hRa, hB6⟩
          obtain ⟨Aa, ca, ea⟩ := Kd.R_slice hRa
          subst ea
          have HRA := Lib.hid hRa
          have H8 := Lib.hid (H7.out.below hB6)
          have HCX8 := Lib.hid (Kd.C_below HCX7.out hB6)
          have HRO8 := Lib.hid (Kd.C_below HRO.out.2.2 hB6)
          have HSZ6 := Lib.hid hB6.size
          clear hRa hB6 HCX7
          have f0 := (blk_cell H8.out.bx 0).trans rfl
          have f1 := (blk_cell H8.out.bx 1).trans rfl
          go_wp2_with fail
          clear f0 f1
          refine (HO10.out (some ⟨gr, 0, none⟩) cap w6 HCX8.out (by omega)).mono ?_
          rintro e w7 ⟨vb, rfl, hRb, hB7⟩
          obtain ⟨Ab, cb, eb⟩ := Kd.R_slice hRb
          subst eb
          have HRB := Lib.hid hRb
          have H9 := Lib.hid (H8.out.below hB7)
          have HCX9 := Lib.hid (Kd.C_below HCX8.out hB7)
          have HRO9 := Lib.hid (Kd.C_below HRO8.out hB7)
          have HRA9 := Lib.hid (Kd.R_below HRA.out hB7)
          have HSZ7 := Lib.hid hB7.size
          clear hRb hB7 HCX8 HRO8
          have g1 : (fk == fk) = true := by simp
          have g2 : (fk != fk) = false := by simp
          go_wp2_with fail
          obtain ⟨_, la, Ca⟩ := Kd.R_reads' HRA9.out
          obtain ⟨_, lb, Cb⟩ := Kd.R_reads' HRB.out
          have HCA := Lib.hid Ca
          have HCB := Lib.hid Cb
          clear Ca Cb
          refine (same_refl Aa Ao o.length o.length ca co o w7 HCA.out la HRO9.out HRO.out.2.1 (by omega)).mono ?_
          rintro e w8 ⟨rfl, q1, rfl⟩
          go_wp2_with fail
          refine (same_refl Ab Ao o.length o.length cb co o _ (Kd.C_drewN HCB.out _) lb (Kd.C_drewN HRO9.out _) HRO.out.2.1 (by omega)).mono ?_
          rintro e w8 ⟨rfl, q2, rfl⟩
          go_wp2_with fail
          refine (same_refl (some ⟨gr, 0, none⟩) A0 l.length l.length cap c0 l _ (Kd.C_drewN HCX9.out _) (by omega) (Kd.C_drewN (Kd.C_below HCL.out H9.out.bel) _) hc0 (by omega)).mono ?_
          rintro e w8 ⟨rfl, q3, rfl⟩
          have H10 := Lib.hid (H9.out.draws (q1 + q2 + q3))
          obtain ⟨_, fa⟩ := row_of_new HRA.out H7.out.bel.size
          obtain ⟨ra, _⟩ := row_of_new HRA9.out H7.out.bel.size
          obtain ⟨rb, fb⟩ := row_of_new HRB.out H8.out.bel.size
          have HRA10 := Lib.hid (Kd.R_drewN ra (q1 + q2 + q3))
          have HFA := Lib.hid fa
          have HFB := Lib.hid fb
          have HRB10 := Lib.hid (Kd.R_drewN rb (q1 + q2 + q3))
          clear ra rb fa fb
          go_wp2_with fail
          have hva : ∀ k, (Value.slice Aa o.length ca).ownBlock = some k → w4.heap.size ≤ k := fun k hk => Nat.le_trans HSZ5.out (HFA.out k hk).1
          have hvb : ∀ k, (Value.slice Ab o.length cb).ownBlock = some k → w4.heap.size ≤ k := fun k hk => Nat.le_trans (Nat.le_trans HSZ5.out HSZ6.out) (HFB.out k hk).1
          have HVA := Lib.hid hva
          have HVB := Lib.hid hvb
          clear hva hvb
          refine (lrow_any (fun k => okL k ∨ (Value.slice Ab o.length cb).ownBlock = some k) w.heap.size (N + 1) hsL wsL vmL vwL Ab o.length cb o _ (H10.out.lk.mono (fun k hk => .inl hk)) (H10.out.lf.mono (fun k hk => .inl hk)) (Kd.R_mono HRB10.out (fun k hk => .inr hk)) (H6.out.apart HVB.out).1 (H6.out.apart HVB.out).2 (by have := H10.out.ln; omega) hol H10.out.bel.size).mono ?_
          intro e w11 hp
          obtain rfl := hp.1
          have hp2 := hp
          obtain ⟨_, _, _, _, _, _, hF⟩ := hp2
          have hra := R_flat flat36 (ok' := fun k => okN k ∨ (Value.slice Aa o.length ca).ownBlock = some k) HRA10.out (w' := w11) (fun k hk => hF.2.2.2.2 k (by have := (HFA.out k hk).2; have := HSZ7.out; show k < w7.heap.size; omega) (fun h => h.elim (H6.out.fresh HVA.out k hk).2.1 (fun hk' => by have := (HFA.out k hk).2; have := (HFB.out k hk').1; omega))) (fun k hk => .inr hk)
          obtain ⟨y, vm2, vw2, h11⟩ := H10.out.late (fun k hk => ⟨(H6.out.fresh HVB.out k hk).1, (H6.out.fresh HVB.out k hk).2.2⟩) hp
          have H11 := Lib.hid h11
          have HRA11 := Lib.hid hra
          clear hp hF hra h11
          go_wp2_with fail
          refine (row_any w (fun k => okN k ∨ (Value.slice Aa o.length ca).ownBlock = some k) N hsN msN vmN vkN Aa o.length ca o w11 H11.out.bel (H11.out.nk.mono (fun k hk => .inl hk)) (H11.out.nf.mono (fun k hk => .inl hk)) HRA11.out (H6.out.notMine HVA.out) (by have := H11.out.nn; omega) (by omega) H11.out.nb).mono ?_
          intro e w12 hp
          obtain rfl := hp.1
          obtain ⟨okN2, hs2, ms2, vmn2, vkn2, h12⟩ := H11.out.now (fun k hk => ⟨(by
            rintro ⟨(h | h) | h, _⟩
            · exact (H6.out.fresh HVA.out k hk).2.1 h
            · have := (HFA.out k hk).2; have := (HFB.out k h).1; omega
            · have := (HFA.out k hk).2; have := HSZ7.out; have h : w7.heap.size ≤ k := h; omega), (H6.out.fresh HVA.out k hk).2.2⟩) hp
          have H12 := Lib.hid h12
          clear hp h12
          go_wp2_with fail
          go_roundw
          case rel => exact ⟨j + 1, by omega, by omega, by go_num, Lib.hid ⟨_, _, _, _, _, _, _, _, _, _, H12.out⟩⟩
          case measure => simp [intOf]; omega
        · have e3 : decide ((l.length : Int) > 60) = true := decide_eq_true (by omega)
          go_wp2_with fail
          go_roundw
          case rel => exact ⟨j + 1, by omega, by omega, by go_num, Lib.hid ⟨okN, okL, hsN, msN, vmN, vkN, hsL, wsL, vmL, vwL, { H5.out with nn := by have := H5.out.nn; omega, ln := by have := H5.out.ln; omega }⟩⟩
          case measure => simp [intOf]; omega
      · obtain rfl : j = 30 := by omega
        have e2 : decide (((30 : Nat) : Int) < 30) = false := rfl
        go_wp2_with fail
        refine (whole_any okN w.heap.size N hsN msN vmN vkN wr H5.out.nk H5.out.nf (by have := H5.out.nn; omega) H5.out.nb).mono ?_
        rintro e w2 ⟨rfl, q, rfl⟩
        have H6 := Lib.hid (H5.out.draws q)
        go_wp2_with fail
        refine (whole_late w okL (N + 1) hsL wsL vmL vwL _ H6.out.bel H6.out.lk H6.out.lf (by have := H6.out.ln; omega)).mono ?_
        rintro e w2 ⟨rfl, hb2⟩
        go_wp2_with fail
        go_ret
        exact ⟨rfl, hb2⟩
    · have e1 : decide ((j : Int) < (n : Int)) = false := decide_eq_false (by omega)
      go_wp2_with fail
      refine (whole_any okN w.heap.size N hsN msN vmN vkN wr H5.out.nk H5.out.nf (by have := H5.out.nn; omega) H5.out.nb).mono ?_
      rintro e w2 ⟨rfl, q, rfl⟩
      have H6 := Lib.hid (H5.out.draws q)
      go_wp2_with fail
      refine (whole_late w okL (N + 1) hsL wsL vmL vwL _ H6.out.bel H6.out.lk H6.out.lf (by have := H6.out.ln; omega)).mono ?_
      rintro e w2 ⟨rfl, hb2⟩
      go_wp2_with fail
      go_ret
      exact ⟨rfl, hb2⟩
theorem bytes22 : Try.prog.bytesOf 22 = 24 := by kernel_rfl
theorem oLists : Opens Try.prog 45 (Kd.slice 22 (Kd.slice 36 k36)) (fun l => l.length * 24 ≤ 140737488351232 ∧ ∀ p ∈ l, (fun l => l.length * 32 ≤ 140737488351232 ∧ ∀ p ∈ l, wf4 p) p) := Opens.slice Try.underlying45 (by kernel_rfl) bytes22 oRow
end Go.Proofs.Ytameoapnhmoleaa
