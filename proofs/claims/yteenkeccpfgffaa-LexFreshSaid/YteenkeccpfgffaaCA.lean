/- Rows of rows that share memory: what a call leaves, headers, an append that is room or new (chapter 2; the same as chapter 13's X1 and KA). -/
import Derived.Test.YteenkeccpfgffaaM
import Derived.Test.YteenkeccpfgffaaWKept
import Derived.WideLaws
import Derived.Lib.Hide
import Derived.Outline
import Derived.Deep.RegionWith
import Derived.RegionTactic
import Derived.Deep.AppendLies
import Derived.Deep.RegionLaw
import Derived.Deep.QuietTactic
import Derived.BigQuiet
import Derived.WalkMore
import Derived.Deep.LoopGhost
import Derived.Deep.DeepCutAuto
set_option linter.unusedVariables false
set_option linter.unusedSimpArgs false
namespace Go.Proofs.Yteenkeccpfgffaa
open Go.RowKit Go.Proofs.YteenkeccpfgffaaW.PrintWords Go.Proofs.YteenkeccpfgffaaW.PrintLast Go.Proofs.YteenkeccpfgffaaW.PrintMore

/-- What a call leaves: the outside, the tape, and all blocks but those of S. -/
def Fr (w w' : World) (S : Nat → Prop) : Prop := w'.os = w.os ∧ w'.tape = w.tape ∧ w'.output = w.output ∧ Kept w w' S
section
variable {w w1 w2 : World} {S S2 : Nat → Prop}
theorem Fr.refl (w : World) (S : Nat → Prop) : Fr w w S := ⟨rfl, rfl, rfl, Kept.refl w S⟩
theorem Fr.then_ (h : Fr w w1 S) (k : Fr w1 w2 S2) (hs : ∀ k, S2 k → S k ∨ w.heap.size ≤ k) : Fr w w2 S :=
  ⟨k.1.trans h.1, k.2.1.trans h.2.1, k.2.2.1.trans h.2.2.1, h.2.2.2.then_ k.2.2.2 hs⟩
theorem Fr.mono (h : Fr w w1 S) (hs : ∀ k, S k → S2 k) : Fr w w1 S2 := ⟨h.1, h.2.1, h.2.2.1, h.2.2.2.mono hs⟩
theorem Fr.of_below (h : Below w.heap.size w w1) (S : Nat → Prop) : Fr w w1 S := ⟨h.os, h.tape, h.output, Kept.of_below h S⟩
theorem Fr.of_grown {row : Option Nat} (h : w.grownBy w1 row) (hS : ∀ k, row = some k → S k) : Fr w w1 S := ⟨h.os, h.tape, h.output, h.size, fun i hi hn => h.block i hi (fun e => hn (hS i e.symm))⟩
theorem Fr.drewN (h : Fr w w1 S) (n : Nat) : Fr w (w1.drewN n) S := h
theorem Fr.alloc (h : Fr w w1 S) (o : Obj) : Fr w (w1.alloc o) S := h.then_ (S2 := fun _ => False) (Fr.of_below ((Below.refl _ _).alloc (Nat.le_refl _) o) _) (fun _ hk => hk.elim)
theorem Fr.set (h : Fr w w1 S) {p : Addr} (hp : S p.block ∨ w.heap.size ≤ p.block) (u : Value) : Fr w (w1.setCell p u) S :=
  ⟨h.1, h.2.1, h.2.2.1, h.2.2.2.setCell hp u⟩
theorem Fr.below (h : Fr w w1 S) (hS : ∀ k, S k → w.heap.size ≤ k) : Below w.heap.size w w1 :=
  ⟨h.1, h.2.1, h.2.2.1, h.2.2.2.1, fun i hi => h.2.2.2.2 i hi (fun hk => by have := hS i hk; omega)⟩
theorem Fr.size (h : Fr w w1 S) : w.heap.size ≤ w1.heap.size := h.2.2.2.1
theorem Fr.blk {g : Nat} {o : Obj} (h : Fr w w1 S) (hb : w.heap[g]? = some o) (hg : ¬ S g) : w1.heap[g]? = some o := blk_kept hb h.2.2.2 hg
end
/-- A kind whose elements lead nowhere. -/
def Flat {α : Type} (d : Kd α) : Prop := ∀ (w w' : World) (base base' : Nat) (ok ok' : Nat → Prop) (x : α) (cs : List Value), d.M w base ok x cs → d.M w' base' ok' x cs
theorem flat_scalar {α : Type} {enc : α → Value} {h1 : ∀ x, (enc x).oneCell' = true} : Flat (Kd.scalar enc h1) := fun _ _ _ _ _ _ _ _ h => h
theorem flat_pair {α β : Type} {a : Kd α} {b : Kd β} (ha : Flat a) (hb : Flat b) : Flat (Kd.pair a b) := fun w w' base base' ok ok' x cs ⟨c0, c1, e, h0, h1⟩ => ⟨c0, c1, e, ha w w' base base' ok ok' _ _ h0, hb w w' base base' ok ok' _ _ h1⟩
theorem flat_iso {α β : Type} {d : Kd α} {f : β → α} (h : Flat d) : Flat (Kd.iso d f) := fun w w' base base' ok ok' x cs hm => h w w' base base' ok ok' _ _ hm
theorem R_flat {α : Type} {d : Kd α} (hd : Flat d) {e base : Nat} {w w' : World} {ok ok' : Nat → Prop} {v : Value} {xs : List α} (h : d.R e w base ok v xs) (hk : ∀ k, v.ownBlock = some k → w'.heap[k]? = w.heap[k]?) (hok : ∀ k, v.ownBlock = some k → ok' k) : d.R e w' base ok' v xs := by
  obtain ⟨_, inner, hown, hr⟩ := h
  exact ⟨hok, inner, own_move hown hk, hr.imp_ (fun p c hp => hd _ _ _ _ _ _ p c hp)⟩
theorem row_block {α : Type} {d : Kd α} {e base : Nat} {w : World} {ok : Nat → Prop} {v : Value} {xs : List α} (h : d.R e w base ok v xs) {k : Nat} (hk : v.ownBlock = some k) : base ≤ k ∧ ∃ cells, w.heap[k]? = some (.cells cells e (0, 0)) := by
  obtain ⟨inner, ho⟩ := Kd.R_own h
  exact ⟨own_base ho k hk, own_typed ho k hk⟩

section
variable {w : World} {base : Nat}
theorem row_ne {α : Type} {d : Kd α} {e : Nat} {ok : Nat → Prop} {v : Value} {xs : List α} (h : d.R e w base ok v xs) {k : Nat} {cs : Array Value} {ty : TypeId} (hk : w.heap[k]? = some (.cells cs ty (0, 0))) (hne : e ≠ ty) : v.ownBlock ≠ some k := by
  intro he
  obtain ⟨_, c, hc⟩ := row_block h he
  rw [hk] at hc
  cases hc
  exact hne rfl
theorem row_ne_row {α β : Type} {d : Kd α} {d' : Kd β} {e e' : Nat} {ok ok' : Nat → Prop} {v v' : Value} {xs : List α} {ys : List β} (h : d.R e w base ok v xs) (h' : d'.R e' w base ok' v' ys) (hne : e ≠ e') : ∀ k, v.ownBlock = some k → v'.ownBlock ≠ some k := by
  intro k hk
  obtain ⟨_, c, hc⟩ := row_block h hk
  exact row_ne h' hc (Ne.symm hne)
end
structure Hd where
  a : Option Addr
  n : Nat
  c : Nat
def encH (h : Hd) : Value := .slice h.a h.n h.c
theorem encH_one (h : Hd) : (encH h).oneCell' = true := rfl
def kH : Kd Hd := Kd.scalar encH encH_one
theorem flatH : Flat kH := flat_scalar
def zH : Hd := ⟨none, 0, 0⟩
section
variable {P : Program} (w : World)
/-- An append, and what it leaves: there was room, or all is new. -/
theorem run_app_new (base : Nat) (t ty e : TypeId) (i : TypeInfo) (z : Value) (size bytes : Nat) (ht : P.underlying t = some (.slice e)) (hi : P.info? e = some i) (hz : i.zero = some z)
    (hsize : i.size = size) (hby : i.bytes = bytes) (hzs : z.cells.size = size) (hsz : 0 < size)
    (v : Value) (n : Nat) (xs : List Value) (hown : w.ownsRow base e size v n xs)
    (a : Addr) (m c : Nat) (news : List Value) (hl : news.length = m * size) (hnews : ∀ j u, news[j]? = some u → w.cell? (a.add j) = some u) (h1 : ∀ u ∈ news, u.oneCell' = true)
    (h63 : n + m ≤ maxLen) (hbytes : (n + m) * bytes ≤ 140737488355328) (hbase : base ≤ w.heap.size) (hm : 0 < m) :
    ∃ v' w', (Builtin.append_ #[t, t] ty #[v, .slice (some a) m c]).run P w = .ok v' w' ∧ w'.ownsRow base e size v' (n + m) (xs ++ news) ∧ w.grownBy w' v.ownBlock ∧
      (v'.ownBlock = v.ownBlock ∨ v'.ownBlock = some w.heap.size ∧ w.grownBy w' none) := by
  obtain ⟨v', w', hr, h2, h3, _, hat⟩ := run_append_own_at (P := P) w base t ty e i z size bytes ht hi hz hsize hby hzs hsz v n xs hown a m c news hl hnews h1 h63 hbytes hbase
  refine ⟨v', w', hr, h2, h3, ?_⟩
  rcases hat with hat | hat
  · exact .inl hat
  · refine .inr ⟨hat, ?_⟩
    rcases hown.2 with ⟨rfl, _⟩ | ⟨g, cap, cur, rfl, hbg, hg, hnc, hcm, hcs, htake⟩
    · exact h3
    · subst hsize
      subst hby
      by_cases hroom : n + m ≤ cap
      · have hfit : n * i.size + news.length ≤ cur.size := by rw [hl, hcs, ← Nat.add_mul]; exact Nat.mul_le_mul_right _ hroom
        have hr2 := run_append_room (P := P) w t ty e i ht hi g n cap cur hg a m c news hl hnews h1 hroom hfit
        rw [hr] at hr2
        injection hr2 with e1 e2
        rw [e1] at hat
        have hgs := (Array.getElem?_eq_some_iff.1 hg).1
        simp [Value.ownBlock] at hat
        omega
      · have holds : ∀ j u, xs[j]? = some u → w.cell? ((⟨g, 0, none⟩ : Addr).add j) = some u := hown.cells (g := g) rfl
        have hr2 := run_append_grow (P := P) w t ty e i z ht hi hz ⟨g, 0, none⟩ n cap xs hown.1 holds a m c news hl hnews (by omega) (by have := h63; simp only [maxLen] at this; omega) (growslice_fits (by omega) hbytes)
        rw [hr] at hr2
        injection hr2 with e1 e2
        rw [e2]
        exact ⟨rfl, rfl, rfl, by simp, fun k hk _ => Below.heap_alloc w.drew _ k hk⟩
end
section
variable {P : Program} {ops : Array Oper} {rest : List Oper} {o : Oper} {a : Act} {Q : Exit → Act → World → Prop} {α : Type}
theorem far_append (d : Kd α) {W : World} (base : Nat) (hgd : o.guard = none) (s x : Operand) (t e : TypeId) (z : Value) (bytes : Nat)
    (ho : o.op = .call { callee := .builtin .append, args := #[s, x], argTypes := #[t, t] })
    (ht : P.underlying t = some (.slice e)) (hinfo : (P.info? e).map (fun i => (i.zero, i.size, i.bytes)) = some (some z, d.sz, bytes)) (hz : z.cells.size = d.sz) (hs0 : 0 < d.sz) (hb0 : 0 < bytes)
    (v : Value) (xs : List α) (p : α) (cs : List Value) (ok : Nat → Prop) (hs : a.eval s = v) (hx : a.eval x = .slice (some ⟨W.heap.size, 0, none⟩) 1 1) (hp : d.M W base (fun _ => False) p cs) (hfresh : ∀ k, W.heap.size ≤ k → ok k)
    (HO : d.R e W base ok v xs) (hbase : base ≤ W.heap.size) (hl : (xs.length + 1) * bytes ≤ 140737488355328)
    (h : ∀ v1 w1, d.R e w1 base ok v1 (xs ++ [p]) → W.grownBy w1 v.ownBlock → (v1.ownBlock = v.ownBlock ∨ (∃ b, v1.ownBlock = some b ∧ W.heap.size ≤ b) ∧ W.grownBy w1 none) → wpList P ops Q rest (a.put o.dst v1) w1) :
    wpList P ops Q (o :: rest) a (W.alloc (.cells cs.toArray e)) := by
  obtain ⟨h0, inner, hown, hr⟩ := HO
  obtain ⟨i0, hi, hzz⟩ := Option.map_eq_some_iff.1 hinfo
  simp only [Prod.mk.injEq] at hzz
  obtain ⟨hz0, hz1, hz2⟩ := hzz
  have hlen : xs.length + 1 ≤ 140737488355328 := Nat.le_trans (Nat.le_mul_of_pos_right _ hb0) hl
  obtain ⟨v1, w1, hrun, hown1, hg, hat⟩ := run_app_new (P := P) (W.alloc (.cells cs.toArray e)) base t o.type e i0 z d.sz bytes ht hi hz0 hz1 hz2 hz hs0 v xs.length inner (hown.alloc _) ⟨W.heap.size, 0, none⟩ 1 1 cs (by rw [d.K_len (d.K_of_M hp)]; simp)
    (by simpa using World.news_of_block (cs := cs.toArray) (t := e) (fr := (0, 0)) (heap_alloc_new W (.cells cs.toArray e))) (d.K_one (d.K_of_M hp)) (by simp only [maxLen]; omega) hl (by simp; omega) (by decide)
  have hg2 := World.grownBy.trans (World.grownBy_alloc W (.cells cs.toArray e) v.ownBlock) hg
  have hat1 : v1.ownBlock = v.ownBlock ∨ ∃ b, v1.ownBlock = some b ∧ W.heap.size ≤ b := by
    rcases hat with hat | hat
    · exact .inl hat
    · exact .inr ⟨_, hat.1, by simp⟩
  refine wpList_plain hgd fun K hK => ?_
  unfold Oper.wp execOp
  simp only [ho, resolve, invoke, builtin, Sem.run_bind, Sem.run_pure, Result.andThen_ok, List.map_toArray, List.map_cons, List.map_nil, hs, hx, hrun]
  refine hK _ _ (h v1 w1 (Kd.R_appended h0 hr hp (fun _ h => h.elim) hfresh hown1 hg2 hat1) hg2 ?_)
  rcases hat with hat | hat
  · exact .inl hat
  · exact .inr ⟨⟨_, hat.1, by simp⟩, World.grownBy.trans (World.grownBy_alloc W (.cells cs.toArray e) none) hat.2⟩
end
-- app_step
section
variable {P : Program} {ops : Array Oper} {o : Oper} {a : Act} {Q : Exit → Act → World → Prop} {Kc : Act → World → Prop} {α : Type} {E : Prop}
/-- append at a step of a region, the world in whatever spelling. -/
theorem app_step (d : Kd α) {W' : World} (W : World) (base : Nat) (hgd : o.guard = none) (s x : Operand) (t e : TypeId) (z : Value) (bytes : Nat)
    (ho : o.op = .call { callee := .builtin .append, args := #[s, x], argTypes := #[t, t] })
    (ht : P.underlying t = some (.slice e)) (hinfo : (P.info? e).map (fun i => (i.zero, i.size, i.bytes)) = some (some z, d.sz, bytes)) (hz : z.cells.size = d.sz) (hs0 : 0 < d.sz) (hb0 : 0 < bytes)
    (v : Value) (xs : List α) (p : α) (cs : List Value) (hW : W' = W.alloc (.cells cs.toArray e)) (ok : Nat → Prop) (hs : a.eval s = v) (hx : a.eval x = .slice (some ⟨W.heap.size, 0, none⟩) 1 1) (hp : d.M W base (fun _ => False) p cs) (hfresh : ∀ k, W.heap.size ≤ k → ok k)
    (HO : d.R e W base ok v xs) (hbase : base ≤ W.heap.size) (hl : (xs.length + 1) * bytes ≤ 140737488355328)
    (h : ∀ v1 w1, d.R e w1 base ok v1 (xs ++ [p]) → W.grownBy w1 v.ownBlock → (v1.ownBlock = v.ownBlock ∨ ∃ b, v1.ownBlock = some b ∧ W.heap.size ≤ b) → Kc (a.put o.dst v1) w1) :
    if Region.wanted o (yielded ops a.tmps) = true then Oper.wp P o a W' Kc Q else E := by
  subst hW
  have hw : Region.wanted o (yielded ops a.tmps) = true := by simp [Region.wanted, hgd]
  have := Kd.R_append_step (P := P) (ops := ops) (o := o) (a := a) (Q := Q) (Kc := Kc) d (w0 := W) base hw s x t e z bytes ho ht hinfo hz hs0 hb0 v xs p cs ok (fun _ => False) hs hx hp (fun _ h => h.elim) hfresh HO (Below.refl _ _) hbase hl (fun v1 w1 h1 _ h2 h3 => h v1 w1 h1 h2 h3)
  rw [if_pos hw] at this ⊢
  exact this
end
section
variable {P : Program} {ops : Array Oper} {o : Oper} {a : Act} {Q : Exit → Act → World → Prop} {Kc : Act → World → Prop} {α : Type} {E : Prop}
/-- A row that is read, appended at a step of a region. -/
theorem rows_step (d : Kd α) {W : World} (base : Nat) (hgd : o.guard = none) (s x : Operand) (t e : TypeId) (z : Value) (bytes : Nat)
    (ho : o.op = .call { callee := .builtin .append, args := #[s, x], argTypes := #[t, t] })
    (ht : P.underlying t = some (.slice e)) (hinfo : (P.info? e).map (fun i => (i.zero, i.size, i.bytes)) = some (some z, d.sz, bytes)) (hz : z.cells.size = d.sz) (hs0 : 0 < d.sz) (hb0 : 0 < bytes) (hd : Flat d)
    (v : Value) (xs ys : List α) (A : Option Addr) (m c : Nat) (ok : Nat → Prop) (hs : a.eval s = v) (hx : a.eval x = .slice A m c) (hKM : ∀ (w : World) x cs, d.K w x cs → d.M w base (fun _ => False) x cs)
    (HO : d.R e W base ok v xs) (HR : d.C W A m ys) (hfresh : ∀ k, W.heap.size ≤ k → ok k) (hbase : base ≤ W.heap.size) (hl : (xs.length + m) * bytes ≤ 140737488355328)
    (h : ∀ v1 w1, d.R e w1 base ok v1 (xs ++ ys) → W.grownBy w1 v.ownBlock → (v1.ownBlock = v.ownBlock ∨ ∃ b, v1.ownBlock = some b ∧ W.heap.size ≤ b) → Kc (a.put o.dst v1) w1) :
    if Region.wanted o (yielded ops a.tmps) = true then Oper.wp P o a W Kc Q else E := by
  have hw : Region.wanted o (yielded ops a.tmps) = true := by simp [Region.wanted, hgd]
  have := Kd.R_append_rows_step (P := P) (ops := ops) (o := o) (a := a) (Q := Q) (Kc := Kc) d (Rr := d.K W) (w0 := W) base hw s x t e z bytes ho ht hinfo hz hs0 hb0 v xs ys A m c ok (fun _ => False) hs hx HO HR (fun x cs hk => hKM W x cs hk) (fun _ h => h.elim) hfresh (Below.refl _ _) hbase hl (fun v1 w1 h1 _ h2 h3 => h v1 w1 h1 h2 h3)
  rw [if_pos hw] at this ⊢
  exact this
end
end Go.Proofs.Yteenkeccpfgffaa
