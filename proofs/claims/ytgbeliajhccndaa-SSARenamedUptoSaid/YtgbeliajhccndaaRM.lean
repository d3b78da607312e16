/- Lemmas of this claim (VB). -/
import Derived.Test.YtgbeliajhccndaaRL
set_option linter.unusedVariables false
set_option linter.unusedSimpArgs false
namespace Go.Proofs.Ytgbeliajhccndaa
open Go.RowKit Go.Proofs.YtgbeliajhccndaaW.PrintWords Go.Proofs.YtgbeliajhccndaaW.PrintLast Go.Proofs.YtgbeliajhccndaaW.PrintMore PP
theorem cellD {w : World} {a : Addr} {v : Value} (h : w.cell? a = some v) : w.drew.cell? a = some v := h
theorem cellF {w : World} {a : Addr} {v : Value} (h : w.cell? a = some v) {g i : Nat} (hne : a.block ≠ g) (u : Value) : (w.setCell ⟨g, i, none⟩ u).cell? a = some v := by
  exact (World.cell?_setCell_other w ⟨g, i, none⟩ a u (fun e => hne (by rw [← e]))).trans h
theorem cellF5 {w : World} {a : Addr} {v : Value} (h : w.cell? a = some v) {g : Nat} (hne : a.block ≠ g) {u0 u1 u2 u3 u4 : Value} : (((((w.setCell ⟨g, 0, none⟩ u0).setCell ⟨g, 1, none⟩ u1).setCell ⟨g, 2, none⟩ u2).setCell ⟨g, 3, none⟩ u3).setCell ⟨g, 4, none⟩ u4).cell? a = some v :=
  cellF (cellF (cellF (cellF (cellF h hne _) hne _) hne _) hne _) hne _
theorem undrew {w W : World} (h : Below w.drew.heap.size w.drew W) : Below w.heap.size w W := below_then (below_drew (Below.refl _ _)) (Nat.le_refl _) h
theorem unalloc {w W : World} {cs : Array Value} {t : TypeId} (h : Below (w.alloc (.cells cs t)).drew.heap.size (w.alloc (.cells cs t)).drew W) : Below w.heap.size w W ∧ W.heap[w.heap.size]? = some (.cells cs t (0, 0)) :=
  ⟨below_then (below_alloc (Below.refl _ _) _) (by simp) (undrew h), blkB (undrew h) (blk_new w _)⟩
theorem S2_blk {w : World} {g : Nat} {a b : Value} {t : Nat} (h : w.heap[g]? = some (.cells #[a, b] t (0, 0))) : w.cell? ⟨g, 0, none⟩ = some a ∧ w.cell? ⟨g, 1, none⟩ = some b :=
  ⟨(blk_cell h 0).trans rfl, (blk_cell h 1).trans rfl⟩
theorem S2_fz {w : World} {g : Nat} {a b : Value} {t : Nat} (h : w.heap[g]? = some (.cells #[a, b] t (0, 0))) : w.frozen? ⟨g, 0, none⟩ = false ∧ w.frozen? ⟨g, 1, none⟩ = false :=
  ⟨blk_frozen h 0, blk_frozen h 1⟩
theorem S4_blk {w : World} {g : Nat} {a b c d : Value} {t : Nat} (h : w.heap[g]? = some (.cells #[a, b, c, d] t (0, 0))) : w.cell? ⟨g, 0, none⟩ = some a ∧ w.cell? ⟨g, 1, none⟩ = some b ∧ w.cell? ⟨g, 2, none⟩ = some c ∧ w.cell? ⟨g, 3, none⟩ = some d :=
  ⟨(blk_cell h 0).trans rfl, (blk_cell h 1).trans rfl, (blk_cell h 2).trans rfl, (blk_cell h 3).trans rfl⟩
theorem S5_blk {w : World} {g : Nat} {a b c d e : Value} {t : Nat} (h : w.heap[g]? = some (.cells #[a, b, c, d, e] t (0, 0))) : w.cell? ⟨g, 0, none⟩ = some a ∧ w.cell? ⟨g, 1, none⟩ = some b ∧ w.cell? ⟨g, 2, none⟩ = some c ∧ w.cell? ⟨g, 3, none⟩ = some d ∧ w.cell? ⟨g, 4, none⟩ = some e :=
  ⟨(blk_cell h 0).trans rfl, (blk_cell h 1).trans rfl, (blk_cell h 2).trans rfl, (blk_cell h 3).trans rfl, (blk_cell h 4).trans rfl⟩
theorem S5_fz {w : World} {g : Nat} {a b c d e : Value} {t : Nat} (h : w.heap[g]? = some (.cells #[a, b, c, d, e] t (0, 0))) : w.frozen? ⟨g, 0, none⟩ = false ∧ w.frozen? ⟨g, 1, none⟩ = false ∧ w.frozen? ⟨g, 2, none⟩ = false ∧ w.frozen? ⟨g, 3, none⟩ = false ∧ w.frozen? ⟨g, 4, none⟩ = false :=
  ⟨blk_frozen h 0, blk_frozen h 1, blk_frozen h 2, blk_frozen h 3, blk_frozen h 4⟩
theorem S6_blk {w : World} {g : Nat} {a b c d e f : Value} {t : Nat} (h : w.heap[g]? = some (.cells #[a, b, c, d, e, f] t (0, 0))) : w.cell? ⟨g, 0, none⟩ = some a ∧ w.cell? ⟨g, 1, none⟩ = some b ∧ w.cell? ⟨g, 2, none⟩ = some c ∧ w.cell? ⟨g, 3, none⟩ = some d ∧ w.cell? ⟨g, 4, none⟩ = some e ∧ w.cell? ⟨g, 5, none⟩ = some f :=
  ⟨(blk_cell h 0).trans rfl, (blk_cell h 1).trans rfl, (blk_cell h 2).trans rfl, (blk_cell h 3).trans rfl, (blk_cell h 4).trans rfl, (blk_cell h 5).trans rfl⟩
section
variable {α : Type} {d : Kd α} {e : Nat} {W W4 : World} {base : Nat} {ok : Nat → Prop} {v : Value} {x : α} {cs : List Value}
theorem M_set (h : d.M W base ok x cs) {g t : Nat} {cells : Array Value} (hb : W.heap[g]? = some (.cells cells t (0, 0))) (ht : ∀ q, q ∈ d.E → q ≠ t) (j : Nat) (u : Value) : d.M (W.setCell ⟨g, j, none⟩ u) base ok x cs :=
  d.M_mono (fun _ hk => hk.1) (Kd.M_far (p := ⟨g, j, none⟩) (Kd.M_types h hb ht) (fun _ hk => hk.2) u)
theorem M_apart (h : d.M W base ok x cs) {row : Option Nat} (hty : ∀ k, row = some k → ∃ cells : Array Value, W.heap[k]? = some (.cells cells e (0, 0))) (ht : ∀ q, q ∈ d.E → q ≠ e) : d.M W base (fun k => ok k ∧ some k ≠ row) x cs :=
  d.M_mono (fun k hk => ⟨hk.1, fun he => by
    obtain ⟨_, _, _, q, hq, c, hc⟩ := hk
    obtain ⟨c2, hc2⟩ := hty k he.symm
    rw [hc2] at hc
    injection hc with hc
    injection hc with _ hc
    exact ht q hq hc.symm⟩) (d.M_bound h)
theorem M_growT (h : d.M W base ok x cs) {row : Option Nat} (hg : W.grownBy W4 row) (hty : ∀ k, row = some k → ∃ cells : Array Value, W.heap[k]? = some (.cells cells e (0, 0))) (ht : ∀ q, q ∈ d.E → q ≠ e) : d.M W4 base ok x cs :=
  d.M_mono (fun _ hk => hk.1) (Kd.M_grown (M_apart h hty ht) hg (fun _ hk => hk.2))
theorem grown_ty {row : Option Nat} (hg : W.grownBy W4 row) (hr : ∀ k, row = some k → ∃ cs : Array Value, W.heap[k]? = some (Obj.cells cs e (0, 0))) {k t : Nat} {cs : Array Value} (hk : W.heap[k]? = some (Obj.cells cs t (0, 0))) (ht : t ≠ e) : W4.heap[k]? = some (Obj.cells cs t (0, 0)) := by
  refine (hg.block k (blk_lt hk) (fun h => ?_)).trans hk
  obtain ⟨c, hc⟩ := hr k h.symm
  rw [hk] at hc
  injection hc with hc
  injection hc with _ hc
  exact ht hc
theorem ty_ne {k k' t t' : Nat} {cs cs' : Array Value} (h : W.heap[k]? = some (Obj.cells cs t (0, 0))) (h' : W.heap[k']? = some (Obj.cells cs' t' (0, 0))) (ht : t ≠ t') : k ≠ k' := fun e => by
  subst e
  rw [h] at h'
  injection h' with h'
  injection h' with _ h'
  exact ht h'
end
section
variable {P : Program} {ops : Array Oper} {o : Oper} {a : Act} {Q : Exit → Act → World → Prop} {Kc : Act → World → Prop} {E : Prop} {α : Type}
theorem app_at (d : Kd α) {W' : World} (W : World) (base : Nat) (hgd : o.guard = none) (s x : Operand) (t e : TypeId) (z : Value) (bytes : Nat)
    (ho : o.op = .call { callee := .builtin .append, args := #[s, x], argTypes := #[t, t] })
    (ht : P.underlying t = some (.slice e)) (hinfo : (P.info? e).map (fun i => (i.zero, i.size, i.bytes)) = some (some z, d.sz, bytes)) (hz : z.cells.size = d.sz) (hs0 : 0 < d.sz) (hb0 : 0 < bytes)
    (v : Value) (xs : List α) (p : α) (cs : List Value) (hW : W' = W.alloc (.cells cs.toArray e)) (hs : a.eval s = v) (hx : a.eval x = .slice (some ⟨W.heap.size, 0, none⟩) 1 1) (hp : d.M W base (fun _ => True) p cs) (hE : ∀ q, q ∈ d.E → q ≠ e)
    (HO : d.R e W base (fun _ => True) v xs) (hbase : base ≤ W.heap.size) (hl : (xs.length + 1) * bytes ≤ 140737488355328)
    (h : ∀ v1 w1, d.R e w1 base (fun _ => True) v1 (xs ++ [p]) → W.grownBy w1 v.ownBlock → Kc (a.put o.dst v1) w1) :
    if Region.wanted o (yielded ops a.tmps) = true then Oper.wp P o a W' Kc Q else E := by
  subst hW
  have hw : Region.wanted o (yielded ops a.tmps) = true := by simp [Region.wanted, hgd]
  have := Kd.R_append_step (P := P) (ops := ops) (o := o) (a := a) (Q := Q) (Kc := Kc) d (w0 := W) base hw s x t e z bytes ho ht hinfo hz hs0 hb0 v xs p cs (fun _ => True) (fun k => True ∧ some k ≠ v.ownBlock) hs hx (M_apart hp (Kd.R_typed HO) hE) (fun _ h => h) (fun _ _ => trivial) HO (Below.refl _ _) hbase hl (fun v1 w1 h1 _ h2 _ => h v1 w1 h1 h2)
  rw [if_pos hw] at this ⊢
  exact this
end
theorem kL_M {W : World} {base b g c : Nat} {l : List Int} (h : (Kd.int .i64).R 3 W b (fun _ => True) (.slice (some ⟨g, 0, none⟩) (l.length + 2) c) (l ++ [-71, -72])) (hb : base ≤ b) : kL.M W base (fun _ => True) (l, true) [.slice (some ⟨g, 0, none⟩) l.length c] :=
  ⟨_, rfl, .inr ⟨rfl, _, _, rfl, Kd.R_lower h hb⟩⟩
theorem kL_nil (W : World) (base : Nat) : kL.M W base (fun _ => True) ([], false) [.slice none 0 0] := ⟨_, rfl, .inl ⟨rfl, rfl, rfl⟩⟩
theorem tl_mk {α : Type} {e : Nat} {d : Kd α} {ms xs : List α} {W : World} {base n m c : Nat} {ok : Nat → Prop} {A : Option Addr} (h : d.R e W base ok (.slice A m c) (xs ++ ms)) (hn : xs.length = n) (hm : m = n + ms.length) : (tl e d ms).M W base ok (xs, true) [.slice A n c] := by
  subst hn
  subst hm
  exact ⟨_, rfl, .inr ⟨rfl, A, c, rfl, h⟩⟩
theorem tl_nil {α : Type} (e : Nat) (d : Kd α) (ms : List α) (W : World) (base : Nat) {ok : Nat → Prop} : (tl e d ms).M W base ok ([], false) [.slice none 0 0] := ⟨_, rfl, .inl ⟨rfl, rfl, rfl⟩⟩
theorem f42_mk {W : World} {base : Nat} {ok : Nat → Prop} (x : S42) (b : Bool) {v3 : Value} (g3 : kL.M W base ok (x.f3, b) [v3]) : f42.M W base ok (x, b) [.int .i64 x.f0, .int .i64 x.f1, .int .i64 x.f2, v3] :=
  ⟨[.int .i64 x.f0], [.int .i64 x.f1, .int .i64 x.f2, v3], rfl, rfl, ⟨[.int .i64 x.f1], [.int .i64 x.f2, v3], rfl, rfl, ⟨[.int .i64 x.f2], [v3], rfl, rfl, g3⟩⟩⟩
theorem f46_mk {W : World} {base : Nat} {ok : Nat → Prop} (x : S46) (b : Bool) {v0 v1 v4 v5 : Value} (g0 : kL.M W base ok (x.f0, b) [v0]) (g1 : kL.M W base ok (x.f1, b) [v1]) (g4 : kL.M W base ok (x.f2.f2, b) [v4]) (g5 : kL.M W base ok (x.f3, b) [v5]) : f46.M W base ok (x, b) [v0, v1, .int .i64 x.f2.f0, .int .i64 x.f2.f1, v4, v5] :=
  ⟨[v0], [v1, .int .i64 x.f2.f0, .int .i64 x.f2.f1, v4, v5], rfl, g0, ⟨[v1], [.int .i64 x.f2.f0, .int .i64 x.f2.f1, v4, v5], rfl, g1, ⟨[.int .i64 x.f2.f0, .int .i64 x.f2.f1, v4], [v5], rfl, ⟨[.int .i64 x.f2.f0], [.int .i64 x.f2.f1, v4], rfl, rfl, ⟨[.int .i64 x.f2.f1], [v4], rfl, rfl, g4⟩⟩, g5⟩⟩⟩
theorem f38_mk {W : World} {base : Nat} {ok : Nat → Prop} (x : S38) (b : Bool) {v1 v3 v4 : Value} (g1 : kL.M W base ok (x.f1, b) [v1]) (g3 : (tl 42 f42 [m42]).M W base ok (tt x.f3, b) [v3]) (g4 : (tl 46 f46 [m46]).M W base ok (tt x.f4, b) [v4]) : f38.M W base ok (x, b) [.string x.f0, v1, .int .i64 x.f2, v3, v4] :=
  ⟨[.string x.f0], [v1, .int .i64 x.f2, v3, v4], rfl, rfl, ⟨[v1], [.int .i64 x.f2, v3, v4], rfl, g1, ⟨[.int .i64 x.f2], [v3, v4], rfl, rfl, ⟨[v3], [v4], rfl, g3, g4⟩⟩⟩⟩
structure LimF (f : S38) : Prop where
  p : f.f1.length ≤ 1000000000
  v : f.f3.length ≤ 1000000000
  b : f.f4.length ≤ 1000000000
  a : ∀ v ∈ f.f3, v.f3.length ≤ 1000000000
  q : ∀ b ∈ f.f4, b.f0.length ≤ 1000000000 ∧ b.f1.length ≤ 1000000000 ∧ b.f2.f2.length ≤ 1000000000 ∧ b.f3.length ≤ 1000000000
structure Le (w W : World) (gL g cap : Nat) (ps : List S38) (m : Int) : Prop where
  below : Below w.heap.size w W
  lb : W.heap[gL]? = some (.cells #[.slice (some ⟨g, 0, none⟩) ps.length cap, .int .i64 m] 32 (0, 0))
  gl : w.heap.size ≤ gL
  rf : f38.R 38 W w.heap.size (fun _ => True) (.slice (some ⟨g, 0, none⟩) (ps.length + 1) cap) (tt ps ++ [m38])
structure Ln (w W : World) (gS gL : Nat) (A : Option Addr) (n c : Nat) (m : Int) (vF : Value) (qs : List (S38 × Bool)) : Prop where
  below : Below w.heap.size w W
  sb : W.heap[gS]? = some (.cells #[.slice A n c, .int .i64 m] 24 (0, 0))
  lb : W.heap[gL]? = some (.cells #[vF, .int .i64 0] 32 (0, 0))
  gl : w.heap.size ≤ gL
  rf : f38.R 38 W w.heap.size (fun _ => True) vF qs
theorem Ln.then_ {w W W' : World} {gS gL n c : Nat} {A : Option Addr} {m : Int} {vF : Value} {qs : List (S38 × Bool)} (h : Ln w W gS gL A n c m vF qs) (hb : Below W.heap.size W W') : Ln w W' gS gL A n c m vF qs :=
  ⟨below_then h.below h.below.size hb, blkB hb h.sb, blkB hb h.lb, h.gl, Kd.R_below h.rf hb⟩
theorem Ln.app {w W W4 : World} {gS gL n c : Nat} {A : Option Addr} {m : Int} {vF v1 : Value} {qs qs' : List (S38 × Bool)} (h : Ln w W gS gL A n c m vF qs) (hR : f38.R 38 W4 w.heap.size (fun _ => True) v1 qs') (hg : W.grownBy W4 vF.ownBlock) : Ln w (W4.setCell ⟨gL, 0, none⟩ v1) gS gL A n c m v1 qs' := by
  have hty := Kd.R_typed h.rf
  have hs := grown_ty hg hty h.sb (by decide)
  have hl := grown_ty hg hty h.lb (by decide)
  exact ⟨below_set (h.below.grown hg h.below.size (Kd.R_base h.rf)) h.gl, blk_far hs (ty_ne hs hl (by decide)) _, (blk_set hl 0 v1).trans rfl, h.gl, Kd.R_set hR hl (by decide) 0 v1⟩
structure Lx (w W : World) (gS gL : Nat) (A : Option Addr) (n c : Nat) (m : Int) (gF cF : Nat) (ps : List S38) : Prop where
  below : Below w.heap.size w W
  sb : W.heap[gS]? = some (.cells #[.slice A n c, .int .i64 m] 24 (0, 0))
  lb : W.heap[gL]? = some (.cells #[.slice (some ⟨gF, 0, none⟩) ps.length cF, .int .i64 0] 32 (0, 0))
  gl : w.heap.size ≤ gL
  rf : f38.R 38 W w.heap.size (fun _ => True) (.slice (some ⟨gF, 0, none⟩) (ps.length + 1) cF) (tt ps ++ [m38])
theorem Ln.mark {w W W4 : World} {gS gL n c gF cF : Nat} {A : Option Addr} {m : Int} {vF : Value} {qs : List (S38 × Bool)} {ps : List S38} (h : Ln w W gS gL A n c m vF qs) (hR : f38.R 38 W4 w.heap.size (fun _ => True) (.slice (some ⟨gF, 0, none⟩) (ps.length + 1) cF) (tt ps ++ [m38])) (hg : W.grownBy W4 vF.ownBlock) : Lx w (W4.setCell ⟨gL, 0, none⟩ (.slice (some ⟨gF, 0, none⟩) ps.length cF)) gS gL A n c m gF cF ps := by
  have hty := Kd.R_typed h.rf
  have hs := grown_ty hg hty h.sb (by decide)
  have hl := grown_ty hg hty h.lb (by decide)
  exact ⟨below_set (h.below.grown hg h.below.size (Kd.R_base h.rf)) h.gl, blk_far hs (ty_ne hs hl (by decide)) _, (blk_set hl 0 _).trans rfl, h.gl, Kd.R_set hR hl (by decide) 0 _⟩
theorem Lx.main {w W : World} {gS gL n c gF cF : Nat} {A : Option Addr} {m : Int} {ps : List S38} (h : Lx w W gS gL A n c m gF cF ps) : Le w (W.setCell ⟨gL, 1, none⟩ (.int .i64 m)) gL gF cF ps m :=
  ⟨below_set h.below h.gl, (blk_set h.lb 1 _).trans rfl, h.gl, Kd.R_set h.rf h.lb (by decide) 1 _⟩
structure Lg {β γ : Type} (KV : Kd β) (KB : Kd γ) (wr W : World) (gf gg : Nat) (fc : Array Value) (nm : ByteArray) (r : Int) (l : List Int) (vP vV vB : Value) (xv : β) (xb : γ) : Prop where
  below : Below wr.heap.size wr W
  fb : W.heap[gf]? = some (.cells fc 38 (0, 0))
  gb : W.heap[gg]? = some (.cells #[.string nm, vP, .int .i64 r, vV, vB] 38 (0, 0))
  ge : wr.heap.size ≤ gf ∧ wr.heap.size ≤ gg
  ne : gf ≠ gg
  rp : kL.M W wr.heap.size (fun _ => True) (l, true) [vP]
  rv : KV.M W wr.heap.size (fun _ => True) xv [vV]
  rb : KB.M W wr.heap.size (fun _ => True) xb [vB]
section
variable {β γ β' γ' : Type} {KV : Kd β} {KB : Kd γ} {KV' : Kd β'} {KB' : Kd γ'} {wr W W' W4 : World} {gf gg : Nat} {fc : Array Value} {nm : ByteArray} {r : Int} {l : List Int} {vP vV vB v1 : Value} {xv : β} {xb : γ} {xv' : β'} {xb' : γ'}
theorem Lg.then_ (h : Lg KV KB wr W gf gg fc nm r l vP vV vB xv xb) (hb : Below W.heap.size W W') : Lg KV KB wr W' gf gg fc nm r l vP vV vB xv xb :=
  ⟨below_then h.below h.below.size hb, blkB hb h.fb, blkB hb h.gb, h.ge, h.ne, Kd.M_below h.rp hb, Kd.M_below h.rv hb, Kd.M_below h.rb hb⟩
theorem Lg.newV (h : Lg KV KB wr W gf gg fc nm r l vP vV vB xv xb) (hg : W.grownBy W4 vV.ownBlock) (hty : ∀ k, vV.ownBlock = some k → wr.heap.size ≤ k ∧ ∃ cs : Array Value, W.heap[k]? = some (.cells cs 42 (0, 0))) (hM : KV'.M W4 wr.heap.size (fun _ => True) xv' [v1]) (hE : ∀ q, q ∈ KV'.E → q ≠ 38) (hB : ∀ q, q ∈ KB.E → q ≠ 42 ∧ q ≠ 38) : Lg KV' KB wr (W4.setCell ⟨gg, 3, none⟩ v1) gf gg fc nm r l vP v1 vB xv' xb := by
  have ht := fun k hk => (hty k hk).2
  have hf := grown_ty hg ht h.fb (by decide)
  have hq := grown_ty hg ht h.gb (by decide)
  exact ⟨below_set (h.below.grown hg h.below.size (fun k hk => (hty k hk).1)) h.ge.2, blk_far hf h.ne _, (blk_set hq 3 v1).trans rfl, h.ge, h.ne, M_set (M_growT h.rp hg ht (by decide)) hq (by decide) 3 v1, M_set hM hq hE 3 v1, M_set (M_growT h.rb hg ht (fun q hq => (hB q hq).1)) hq (fun q hq => (hB q hq).2) 3 v1⟩
theorem Lg.newB (h : Lg KV KB wr W gf gg fc nm r l vP vV vB xv xb) (hg : W.grownBy W4 vB.ownBlock) (hty : ∀ k, vB.ownBlock = some k → wr.heap.size ≤ k ∧ ∃ cs : Array Value, W.heap[k]? = some (.cells cs 46 (0, 0))) (hM : KB'.M W4 wr.heap.size (fun _ => True) xb' [v1]) (hE : ∀ q, q ∈ KB'.E → q ≠ 38) (hB : ∀ q, q ∈ KV.E → q ≠ 46 ∧ q ≠ 38) : Lg KV KB' wr (W4.setCell ⟨gg, 4, none⟩ v1) gf gg fc nm r l vP vV v1 xv xb' := by
  have ht := fun k hk => (hty k hk).2
  have hf := grown_ty hg ht h.fb (by decide)
  have hq := grown_ty hg ht h.gb (by decide)
  exact ⟨below_set (h.below.grown hg h.below.size (fun k hk => (hty k hk).1)) h.ge.2, blk_far hf h.ne _, (blk_set hq 4 v1).trans rfl, h.ge, h.ne, M_set (M_growT h.rp hg ht (by decide)) hq (by decide) 4 v1, M_set (M_growT h.rv hg ht (fun q hq => (hB q hq).1)) hq (fun q hq => (hB q hq).2) 4 v1, M_set hM hq hE 4 v1⟩
theorem Lg.initA {gp cp b : Nat} (hB : Below wr.heap.size wr W) (hF : W.heap[gf]? = some (.cells fc 38 (0, 0))) (hG : wr.heap.size ≤ gf) (hb : wr.heap.size ≤ b) (hR : (Kd.int .i64).R 3 W b (fun _ => True) (.slice (some ⟨gp, 0, none⟩) (l.length + 2) cp) (l ++ [-71, -72])) :
    Lg (Kd.slice 42 f42) (Kd.slice 46 f46) wr (W.alloc (.cells #[.string nm, .slice (some ⟨gp, 0, none⟩) l.length cp, .int .i64 r, .slice none 0 0, .slice none 0 0] 38)) gf W.heap.size fc nm r l (.slice (some ⟨gp, 0, none⟩) l.length cp) (.slice none 0 0) (.slice none 0 0) [] [] :=
  ⟨below_alloc hB _, blkB (below_alloc (Below.refl _ _) _) hF, blk_new W _, ⟨hG, hB.size⟩, Nat.ne_of_lt (blk_lt hF), Kd.M_below (kL_M hR hb) (below_alloc (Below.refl _ _) _), ⟨_, rfl, Kd.R_nil _ _ _ _ _⟩, ⟨_, rfl, Kd.R_nil _ _ _ _ _⟩⟩
theorem Lg.initB {gp cp b : Nat} {u0 u1 u2 u3 u4 : Value} (hB : Below wr.heap.size wr W) (hF : W.heap[gf]? = some (.cells fc 38 (0, 0))) (hG : wr.heap.size ≤ gf) (hb : wr.heap.size ≤ b) (hR : (Kd.int .i64).R 3 W b (fun _ => True) (.slice (some ⟨gp, 0, none⟩) (l.length + 2) cp) (l ++ [-71, -72])) (hq : W.heap[gg]? = some (.cells #[u0, u1, u2, u3, u4] 38 (0, 0))) (hgg : wr.heap.size ≤ gg) (hne : gf ≠ gg) :
    Lg (Kd.slice 42 f42) (Kd.slice 46 f46) wr (((((W.setCell ⟨gg, 0, none⟩ (.string nm)).setCell ⟨gg, 1, none⟩ (.slice (some ⟨gp, 0, none⟩) l.length cp)).setCell ⟨gg, 2, none⟩ (.int .i64 r)).setCell ⟨gg, 3, none⟩ (.slice none 0 0)).setCell ⟨gg, 4, none⟩ (.slice none 0 0)) gf gg fc nm r l (.slice (some ⟨gp, 0, none⟩) l.length cp) (.slice none 0 0) (.slice none 0 0) [] [] := by
  have q1 := (blk_set hq 0 (.string nm)).trans rfl
  have q2 := (blk_set q1 1 (.slice (some ⟨gp, 0, none⟩) l.length cp)).trans rfl
  have q3 := (blk_set q2 2 (.int .i64 r)).trans rfl
  have q4 := (blk_set q3 3 (.slice none 0 0)).trans rfl
  have q5 := (blk_set q4 4 (.slice none 0 0)).trans rfl
  have m0 : kL.M W wr.heap.size (fun _ => True) (l, true) [.slice (some ⟨gp, 0, none⟩) l.length cp] := kL_M hR hb
  exact ⟨below_set (below_set (below_set (below_set (below_set hB hgg) hgg) hgg) hgg) hgg, blk_far (blk_far (blk_far (blk_far (blk_far hF hne _) hne _) hne _) hne _) hne _, q5, ⟨hG, hgg⟩, hne, M_set (M_set (M_set (M_set (M_set m0 hq (by decide) _ _) q1 (by decide) _ _) q2 (by decide) _ _) q3 (by decide) _ _) q4 (by decide) _ _, ⟨_, rfl, Kd.R_nil _ _ _ _ _⟩, ⟨_, rfl, Kd.R_nil _ _ _ _ _⟩⟩
end
end Go.Proofs.Ytgbeliajhccndaa
