/- Chapter 9: what SSALimits has in memory. -/
import Derived.Test.YtgbeliajhccndaaUA
set_option linter.unusedVariables false
set_option linter.unusedSimpArgs false
namespace Go.Proofs.Ytgbeliajhccndaa
open Go.RowKit Go.Proofs.YtgbeliajhccndaaW.PrintWords Go.Proofs.YtgbeliajhccndaaW.PrintLast Go.Proofs.YtgbeliajhccndaaW.PrintMore PP

section
variable {P : Program} {ops : Array Oper} {o : Oper} {a : Act} {Q : Exit → Act → World → Prop} {Kc : Act → World → Prop} {E : Prop} {α : Type}
theorem app_step (d : Kd α) {W' : World} (W : World) (base : Nat) (hgd : o.guard = none) (s x : Operand) (t e : TypeId) (z : Value) (bytes : Nat)
    (ho : o.op = .call { callee := .builtin .append, args := #[s, x], argTypes := #[t, t] })
    (ht : P.underlying t = some (.slice e)) (hinfo : (P.info? e).map (fun i => (i.zero, i.size, i.bytes)) = some (some z, d.sz, bytes)) (hz : z.cells.size = d.sz) (hs0 : 0 < d.sz) (hb0 : 0 < bytes)
    (v : Value) (xs : List α) (p : α) (cs : List Value) (hW : W' = W.alloc (.cells cs.toArray e)) (ok : Nat → Prop) (hs : a.eval s = v) (hx : a.eval x = .slice (some ⟨W.heap.size, 0, none⟩) 1 1) (hp : d.M W base (fun _ => False) p cs) (hfresh : ∀ k, W.heap.size ≤ k → ok k)
    (HO : d.R e W base ok v xs) (hbase : base ≤ W.heap.size) (hl : (xs.length + 1) * bytes ≤ 140737488355328)
    (h : ∀ v1 w1, d.R e w1 base ok v1 (xs ++ [p]) → W.grownBy w1 v.ownBlock → (v1.ownBlock = v.ownBlock ∨ ∃ b, v1.ownBlock = some b ∧ W.heap.size ≤ b) → Kc (a.put o.dst v1) w1) :
    if Region.wanted o (yielded ops a.tmps) = true then Oper.wp P o a W' Kc Q else E := by
  subst hW
  have hw : Region.wanted o (yielded ops a.tmps) = true := by simp [Region.wanted, hgd]
  have := Kd.R_append_step (P := P) (ops := ops) (o := o) (a := a) (Q := Q) (Kc := Kc) d (w0 := W) base hw s x t e z bytes ho ht hinfo hz hs0 hb0 v xs p cs ok (fun _ => False) hs hx hp (fun _ h => h.elim) hfresh HO (Below.refl _ _) hbase hl (fun v1 w1 h1 _ h2 h3 => h v1 w1 h1 h2 h3)
  rw [if_pos hw] at this ⊢
  exact this
end
abbrev V3 := Int × Int × Int
def encV (x : V3) : List Value := [.int .i64 x.1, .int .i64 x.2.1, .int .i64 x.2.2, .slice none 0 0]
def toV (x : V3) : S42 := ⟨x.1, x.2.1, x.2.2, []⟩
theorem flatV_len : ∀ (vs : List V3), (vs.flatMap encV).length = vs.length * 4
  | [] => rfl
  | h :: r => by rw [List.flatMap_cons, List.length_append, flatV_len r, show (encV h).length = 4 from rfl, List.length_cons]; omega
theorem flatV_drop : ∀ (vs : List V3) (j : Nat) (h : V3), vs[j]? = some h → ((vs.flatMap encV).drop (j * 4)).take 4 = encV h
  | [], j, h, e => by simp at e
  | x :: r, 0, h, e => by
    simp at e
    subst e
    rw [List.flatMap_cons]
    simp [encV]
  | x :: r, j + 1, h, e => by
    have := flatV_drop r j h (by simpa using e)
    have hl : (encV x).length = 4 := rfl
    rw [List.flatMap_cons, show (j + 1) * 4 = (encV x).length + j * 4 from by rw [hl]; omega, List.drop_append]
    rw [List.drop_eq_nil_of_le (by omega), List.nil_append, Nat.add_sub_cancel_left]
    exact this
theorem vals_own {w : World} {base n : Nat} {v : Value} {vs : List V3} (h : w.ownsRow base 42 4 v n (vs.flatMap encV)) (hn : vs.length = n) : ∃ A c, v = .slice A n c ∧ k42.C w A n (vs.map toV) := by
  have hr : Reps (k42.K w) 4 (vs.map toV) (vs.flatMap encV) := by
    refine ⟨by rw [flatV_len, List.length_map], fun j p hj => ?_⟩
    rw [List.getElem?_map] at hj
    obtain ⟨x, hx, rfl⟩ := Option.map_eq_some_iff.1 hj
    rw [flatV_drop vs j x hx]
    exact k42_mk w (toV x) (A3 := none) (c3 := 0) (Nat.le_refl _) ((HdR.nil w).C.2.2)
  exact own_reads_row h hr (by rw [List.length_map]; exact hn)
structure LmW (w W : World) (gF g0 g1 : Nat) (nm : ByteArray) (vp : Value) (r : Int) (vv vb : Value) (tv : Int) (vs : List V3) (ps bo : List Int) : Prop where
  below : Below w.heap.size w W
  sb : W.heap[gF + 1]? = some (.cells #[.slice (some ⟨gF, 0, none⟩) 2 2, .int .i64 0] 24 (0, 0))
  fb : W.heap[gF]? = some (.cells #[.string ⟨#[109, 97, 105, 110]⟩, .slice none 0 0, .int .i64 0, .slice none 0 0, .slice (some ⟨g0, 0, none⟩) 1 1, .string nm, vp, .int .i64 r, vv, .slice (some ⟨g1, 0, none⟩) 1 1] 38 (0, 0))
  b0 : W.heap[g0]? = some (.cells #[.slice none 0 0, .slice none 0 0, .int .i64 3, .int .i64 (-1), .slice none 0 0, .slice none 0 0] 46 (0, 0))
  b1 : W.heap[g1]? = some (.cells #[.slice none 0 0, vb, .int .i64 3, .int .i64 tv, .slice none 0 0, .slice none 0 0] 46 (0, 0))
  rv : W.ownsRow w.heap.size 42 4 vv vs.length (vs.flatMap encV)
  rp : W.ownsRow w.heap.size 3 1 vp ps.length (nums .i64 ps)
  rb : W.ownsRow w.heap.size 3 1 vb bo.length (nums .i64 bo)
  ap : vp.ownBlock = none ∨ vb.ownBlock = none
  ge : w.heap.size ≤ gF ∧ w.heap.size ≤ g0 ∧ w.heap.size ≤ g1
  ne : g0 ≠ g1
/-- What is typed otherwise stays, where one row grows. -/
theorem grown_typ {W W4 : World} {row : Option Nat} {e : Nat} (hg : W.grownBy W4 row) (hr : ∀ k, row = some k → ∃ cs : Array Value, W.heap[k]? = some (Obj.cells cs e (0, 0))) {k t : Nat} {cs : Array Value} (hk : W.heap[k]? = some (Obj.cells cs t (0, 0))) (ht : t ≠ e) : W4.heap[k]? = some (Obj.cells cs t (0, 0)) := by
  refine (hg.block k (blk_lt hk) (fun h => ?_)).trans hk
  obtain ⟨c, hc⟩ := hr k h.symm
  rw [hk] at hc
  injection hc with hc
  injection hc with _ hc
  exact ht hc
theorem typ_ne {W : World} {k k' t t' : Nat} {cs cs' : Array Value} (h : W.heap[k]? = some (Obj.cells cs t (0, 0))) (h' : W.heap[k']? = some (Obj.cells cs' t' (0, 0))) (ht : t ≠ t') : k ≠ k' := fun e => by
  subst e
  rw [h] at h'
  injection h' with h'
  injection h' with _ h'
  exact ht h'
theorem own_far {W : World} {base e n size k t : Nat} {v : Value} {xs : List Value} {cs : Array Value} (h : W.ownsRow base e size v n xs) (hk : W.heap[k]? = some (Obj.cells cs t (0, 0))) (ht : e ≠ t) (i : Nat) (u : Value) : (W.setCell ⟨k, i, none⟩ u).ownsRow base e size v n xs :=
  own_setCell h (p := ⟨k, i, none⟩) (own_ne h hk ht) u
section
variable {w W W4 : World} {gF g0 g1 : Nat} {nm : ByteArray} {vp vv vb v1 : Value} {r tv : Int} {vs : List V3} {ps bo : List Int}
theorem LmW.then_ {W' : World} (h : LmW w W gF g0 g1 nm vp r vv vb tv vs ps bo) (hb : Below W.heap.size W W') : LmW w W' gF g0 g1 nm vp r vv vb tv vs ps bo :=
  ⟨below_then h.below h.below.size hb, blkB hb h.sb, blkB hb h.fb, blkB hb h.b0, blkB hb h.b1, pw_own_below h.rv hb, pw_own_below h.rp hb, pw_own_below h.rb hb, h.ap, h.ge, h.ne⟩
theorem LmW.fgrow (h : LmW w W gF g0 g1 nm vp r vv vb tv vs ps bo) {e base n size : Nat} {v : Value} {xs : List Value} (ho : W.ownsRow base e size v n xs) (he : e ≠ 38) (hg : W.grownBy W4 v.ownBlock) : W4.heap[gF]? = some (.cells #[.string ⟨#[109, 97, 105, 110]⟩, .slice none 0 0, .int .i64 0, .slice none 0 0, .slice (some ⟨g0, 0, none⟩) 1 1, .string nm, vp, .int .i64 r, vv, .slice (some ⟨g1, 0, none⟩) 1 1] 38 (0, 0)) :=
  grown_typ hg (own_typed ho) h.fb (Ne.symm he)
theorem LmW.bgrow (h : LmW w W gF g0 g1 nm vp r vv vb tv vs ps bo) {e base n size : Nat} {v : Value} {xs : List Value} (ho : W.ownsRow base e size v n xs) (he : e ≠ 46) (hg : W.grownBy W4 v.ownBlock) : W4.heap[g1]? = some (.cells #[.slice none 0 0, vb, .int .i64 3, .int .i64 tv, .slice none 0 0, .slice none 0 0] 46 (0, 0)) :=
  grown_typ hg (own_typed ho) h.b1 (Ne.symm he)
/-- f.Values is appended to. -/
theorem LmW.appV (h : LmW w W gF g0 g1 nm vp r vv vb tv vs ps bo) {x : V3} (ho : W4.ownsRow w.heap.size 42 4 v1 (vs.length + 1) (vs.flatMap encV ++ encV x)) (hg : W.grownBy W4 vv.ownBlock) : LmW w (W4.setCell ⟨gF, 8, none⟩ v1) gF g0 g1 nm vp r v1 vb tv (vs ++ [x]) ps bo := by
  have hty := own_typed h.rv
  have hf := grown_typ hg hty h.fb (by decide)
  have hs := grown_typ hg hty h.sb (by decide)
  have h0 := grown_typ hg hty h.b0 (by decide)
  have h1 := grown_typ hg hty h.b1 (by decide)
  have hp4 := own_other h.rp hg (own_type_ne h.rp h.rv (by decide))
  have hb4 := own_other h.rb hg (own_type_ne h.rb h.rv (by decide))
  refine ⟨below_set (h.below.grown hg h.below.size (fun k hk => own_base h.rv k hk)) h.ge.1, blk_far hs (typ_ne hs hf (by decide)) _, (blk_set hf 8 v1).trans rfl, blk_far h0 (typ_ne h0 hf (by decide)) _, blk_far h1 (typ_ne h1 hf (by decide)) _, ?_, own_far hp4 hf (by decide) 8 v1, own_far hb4 hf (by decide) 8 v1, h.ap, h.ge, h.ne⟩
  rw [List.length_append, List.flatMap_append]
  have := own_far ho hf (by decide) 8 v1
  simpa using this
/-- the body is appended to, f.Params being nil. -/
theorem LmW.appB (h : LmW w W gF g0 g1 nm (.slice none 0 0) r vv vb tv vs ps bo) {x : Int} (ho : W4.ownsRow w.heap.size 3 1 v1 (bo ++ [x]).length (nums .i64 (bo ++ [x]))) (hg : W.grownBy W4 vb.ownBlock) : LmW w (W4.setCell ⟨g1, 1, none⟩ v1) gF g0 g1 nm (.slice none 0 0) r vv v1 tv vs ps (bo ++ [x]) := by
  have hty := own_typed h.rb
  have hf := grown_typ hg hty h.fb (by decide)
  have hs := grown_typ hg hty h.sb (by decide)
  have h0 := grown_typ hg hty h.b0 (by decide)
  have h1 := grown_typ hg hty h.b1 (by decide)
  have hp4 := own_other h.rp hg (.inl rfl)
  have hv4 := own_other h.rv hg (own_type_ne h.rv h.rb (by decide))
  exact ⟨below_set (h.below.grown hg h.below.size (fun k hk => own_base h.rb k hk)) h.ge.2.2, blk_far hs (typ_ne hs h1 (by decide)) _, blk_far hf (typ_ne hf h1 (by decide)) _, blk_far h0 h.ne _, (blk_set h1 1 v1).trans rfl, own_far hv4 h1 (by decide) 1 v1, own_far hp4 h1 (by decide) 1 v1, own_far ho h1 (by decide) 1 v1, .inl rfl, h.ge, h.ne⟩
/-- f.Params is appended to, the body being nil. -/
theorem LmW.appP (h : LmW w W gF g0 g1 nm vp r vv (.slice none 0 0) tv vs ps bo) {x : Int} (ho : W4.ownsRow w.heap.size 3 1 v1 (ps ++ [x]).length (nums .i64 (ps ++ [x]))) (hg : W.grownBy W4 vp.ownBlock) : LmW w (W4.setCell ⟨gF, 6, none⟩ v1) gF g0 g1 nm v1 r vv (.slice none 0 0) tv vs (ps ++ [x]) bo := by
  have hty := own_typed h.rp
  have hf := grown_typ hg hty h.fb (by decide)
  have hs := grown_typ hg hty h.sb (by decide)
  have h0 := grown_typ hg hty h.b0 (by decide)
  have h1 := grown_typ hg hty h.b1 (by decide)
  have hb4 := own_other h.rb hg (.inl rfl)
  have hv4 := own_other h.rv hg (own_type_ne h.rv h.rp (by decide))
  exact ⟨below_set (h.below.grown hg h.below.size (fun k hk => own_base h.rp k hk)) h.ge.1, blk_far hs (typ_ne hs hf (by decide)) _, (blk_set hf 6 v1).trans rfl, blk_far h0 (typ_ne h0 hf (by decide)) _, blk_far h1 (typ_ne h1 hf (by decide)) _, own_far hv4 hf (by decide) 6 v1, own_far ho hf (by decide) 6 v1, own_far hb4 hf (by decide) 6 v1, .inr rfl, h.ge, h.ne⟩
theorem LmW.name (h : LmW w W gF g0 g1 nm vp r vv vb tv vs ps bo) (s : ByteArray) : LmW w (W.setCell ⟨gF, 5, none⟩ (.string s)) gF g0 g1 s vp r vv vb tv vs ps bo :=
  ⟨below_set h.below h.ge.1, blk_far h.sb (typ_ne h.sb h.fb (by decide)) _, (blk_set h.fb 5 _).trans rfl, blk_far h.b0 (typ_ne h.b0 h.fb (by decide)) _, blk_far h.b1 (typ_ne h.b1 h.fb (by decide)) _, own_far h.rv h.fb (by decide) 5 _, own_far h.rp h.fb (by decide) 5 _, own_far h.rb h.fb (by decide) 5 _, h.ap, h.ge, h.ne⟩
theorem LmW.res (h : LmW w W gF g0 g1 nm vp r vv vb tv vs ps bo) (r' : Int) : LmW w (W.setCell ⟨gF, 7, none⟩ (.int .i64 r')) gF g0 g1 nm vp r' vv vb tv vs ps bo :=
  ⟨below_set h.below h.ge.1, blk_far h.sb (typ_ne h.sb h.fb (by decide)) _, (blk_set h.fb 7 _).trans rfl, blk_far h.b0 (typ_ne h.b0 h.fb (by decide)) _, blk_far h.b1 (typ_ne h.b1 h.fb (by decide)) _, own_far h.rv h.fb (by decide) 7 _, own_far h.rp h.fb (by decide) 7 _, own_far h.rb h.fb (by decide) 7 _, h.ap, h.ge, h.ne⟩
theorem LmW.term (h : LmW w W gF g0 g1 nm vp r vv vb tv vs ps bo) (t' : Int) : LmW w (W.setCell ⟨g1, 3, none⟩ (.int .i64 t')) gF g0 g1 nm vp r vv vb t' vs ps bo :=
  ⟨below_set h.below h.ge.2.2, blk_far h.sb (typ_ne h.sb h.b1 (by decide)) _, blk_far h.fb (typ_ne h.fb h.b1 (by decide)) _, blk_far h.b0 h.ne _, (blk_set h.b1 3 _).trans rfl, own_far h.rv h.b1 (by decide) 3 _, own_far h.rp h.b1 (by decide) 3 _, own_far h.rb h.b1 (by decide) 3 _, h.ap, h.ge, h.ne⟩
/-- What Check is handed. -/
theorem LmW.C (h : LmW w W gF g0 g1 nm vp r vv vb tv vs ps bo) : k38.C W (some ⟨gF, 0, none⟩) 2 [⟨⟨#[109, 97, 105, 110]⟩, [], 0, [], [⟨[], [], ⟨3, -1, []⟩, []⟩]⟩, ⟨nm, ps, r, vs.map toV, [⟨[], bo, ⟨3, tv, []⟩, []⟩]⟩] := by
  have hno := (HdR.nil W).C.2.2
  have blkC : ∀ (g : Nat) (v : Value) (t : Int) (l : List Int), W.heap[g]? = some (.cells #[.slice none 0 0, v, .int .i64 3, .int .i64 t, .slice none 0 0, .slice none 0 0] 46 (0, 0)) → (∃ A c, v = .slice A l.length c ∧ l.length ≤ c ∧ (Kd.int .i64).C W A l.length l) → k46.C W (some ⟨g, 0, none⟩) 1 [⟨[], l, ⟨3, t, []⟩, []⟩] := by
    rintro g v t l hb ⟨A, c, rfl, hc, hC⟩
    have h1 : W.ownsRow 0 46 6 (.slice (some ⟨g, 0, none⟩) 1 1) 1 [.slice none 0 0, .slice A l.length c, .int .i64 3, .int .i64 t, .slice none 0 0, .slice none 0 0] :=
      ⟨rfl, .inr ⟨g, 1, _, rfl, Nat.zero_le _, hb, Nat.le_refl _, by unfold maxLen; omega, rfl, rfl⟩⟩
    have hr : Reps (k46.K W) 6 [(⟨[], l, ⟨3, t, []⟩, []⟩ : S46)] [.slice none 0 0, .slice A l.length c, .int .i64 3, .int .i64 t, .slice none 0 0, .slice none 0 0] :=
      (Reps.none (k46.K W) 6).snoc (c := [.slice none 0 0, .slice A l.length c, .int .i64 3, .int .i64 t, .slice none 0 0, .slice none 0 0]) (k46_mk W ⟨[], l, ⟨3, t, []⟩, []⟩ (A0 := none) (c0 := 0) (Nat.le_refl _) hno (A1 := A) (c1 := c) hc hC (A4 := none) (c4 := 0) (Nat.le_refl _) hno (A5 := none) (c5 := 0) (Nat.le_refl _) hno) rfl
    obtain ⟨A', c', e, hh⟩ := own_reads_row h1 hr rfl
    injection e with e _ _
    subst e
    exact hh
  have rowC : ∀ (v : Value) (l : List Int), W.ownsRow w.heap.size 3 1 v l.length (nums .i64 l) → ∃ A c, v = .slice A l.length c ∧ l.length ≤ c ∧ (Kd.int .i64).C W A l.length l := by
    intro v l ho
    have hR : (Kd.int .i64).R 3 W w.heap.size (fun _ => True) v l := Kd.R_of_own (enc := Value.int .i64) ho (fun _ _ => trivial)
    exact Kd.R_reads hR
  have c0 := blkC g0 (.slice none 0 0) (-1) [] h.b0 ⟨none, 0, rfl, Nat.le_refl _, hno⟩
  have c1 := blkC g1 vb tv bo h.b1 (rowC vb bo h.rb)
  obtain ⟨Ap, cp, hvp, lp, Cp⟩ := rowC vp ps h.rp
  obtain ⟨Av, cv, hvv, Cv⟩ := vals_own h.rv rfl
  have lv : (vs.map toV).length ≤ cv := by
    rw [List.length_map]
    rcases Nat.eq_zero_or_pos vs.length with e | e
    · omega
    · obtain ⟨g, cap, he, hle, _⟩ := own_form h.rv e
      rw [hvv] at he
      injection he with _ _ he
      omega
  have Cv' : k42.C W Av (vs.map toV).length (vs.map toV) := by rw [List.length_map]; exact Cv
  have hfb := h.fb
  rw [hvp, hvv] at hfb
  have hno42 : k42.C W none 0 [] := by
    obtain ⟨A, c, e, hh⟩ := vals_own (vs := []) (own_nil W 0 42 4) rfl
    injection e with e _ _
    subst e
    exact hh
  have h1 : W.ownsRow 0 38 5 (.slice (some ⟨gF, 0, none⟩) 2 2) 2 [.string ⟨#[109, 97, 105, 110]⟩, .slice none 0 0, .int .i64 0, .slice none 0 0, .slice (some ⟨g0, 0, none⟩) 1 1, .string nm, .slice Ap ps.length cp, .int .i64 r, .slice Av vs.length cv, .slice (some ⟨g1, 0, none⟩) 1 1] :=
    ⟨rfl, .inr ⟨gF, 2, _, rfl, Nat.zero_le _, hfb, Nat.le_refl _, by unfold maxLen; omega, rfl, rfl⟩⟩
  have hr : Reps (k38.K W) 5 [(⟨⟨#[109, 97, 105, 110]⟩, [], 0, [], [⟨[], [], ⟨3, -1, []⟩, []⟩]⟩ : S38), ⟨nm, ps, r, vs.map toV, [⟨[], bo, ⟨3, tv, []⟩, []⟩]⟩] [.string ⟨#[109, 97, 105, 110]⟩, .slice none 0 0, .int .i64 0, .slice none 0 0, .slice (some ⟨g0, 0, none⟩) 1 1, .string nm, .slice Ap ps.length cp, .int .i64 r, .slice Av vs.length cv, .slice (some ⟨g1, 0, none⟩) 1 1] := by
    have q1 := (Reps.none (k38.K W) 5).snoc (p := (⟨⟨#[109, 97, 105, 110]⟩, [], 0, [], [⟨[], [], ⟨3, -1, []⟩, []⟩]⟩ : S38)) (c := [.string ⟨#[109, 97, 105, 110]⟩, .slice none 0 0, .int .i64 0, .slice none 0 0, .slice (some ⟨g0, 0, none⟩) 1 1]) (k38_mk W ⟨⟨#[109, 97, 105, 110]⟩, [], 0, [], [⟨[], [], ⟨3, -1, []⟩, []⟩]⟩ (A1 := none) (c1 := 0) (Nat.le_refl _) hno (A3 := none) (c3 := 0) (Nat.le_refl _) hno42 (A4 := some ⟨g0, 0, none⟩) (c4 := 1) (Nat.le_refl _) c0) rfl
    have hk := k38_mk W ⟨nm, ps, r, vs.map toV, [⟨[], bo, ⟨3, tv, []⟩, []⟩]⟩ (A1 := Ap) (c1 := cp) lp Cp (A3 := Av) (c3 := cv) lv Cv' (A4 := some ⟨g1, 0, none⟩) (c4 := 1) (Nat.le_refl _) c1
    have e : (vs.map toV).length = vs.length := List.length_map ..
    rw [show (⟨nm, ps, r, vs.map toV, [⟨[], bo, ⟨3, tv, []⟩, []⟩]⟩ : S38).f3.length = vs.length from e] at hk
    exact q1.snoc (c := [.string nm, .slice Ap ps.length cp, .int .i64 r, .slice Av vs.length cv, .slice (some ⟨g1, 0, none⟩) 1 1]) hk rfl
  obtain ⟨A', c', e, hh⟩ := own_reads_row h1 hr rfl
  injection e with e _ _
  subst e
  exact hh
theorem LmW.grown (h : LmW w W gF g0 g1 nm vp r vv vb tv vs ps bo) {e base n size : Nat} {v : Value} {xs : List Value} (ho : W.ownsRow base e size v n xs) (he : e ≠ 24 ∧ e ≠ 38 ∧ e ≠ 46 ∧ e ≠ 42 ∧ e ≠ 3) (hb : w.heap.size ≤ base) (hg : W.grownBy W4 v.ownBlock) : LmW w W4 gF g0 g1 nm vp r vv vb tv vs ps bo := by
  have hty := own_typed ho
  refine ⟨h.below.grown hg h.below.size (fun k hk => Nat.le_trans hb (own_base ho k hk)), grown_typ hg hty h.sb (Ne.symm he.1), grown_typ hg hty h.fb (Ne.symm he.2.1), grown_typ hg hty h.b0 (Ne.symm he.2.2.1), grown_typ hg hty h.b1 (Ne.symm he.2.2.1), own_other h.rv hg (own_type_ne h.rv ho (Ne.symm he.2.2.2.1)), own_other h.rp hg (own_type_ne h.rp ho (Ne.symm he.2.2.2.2)), own_other h.rb hg (own_type_ne h.rb ho (Ne.symm he.2.2.2.2)), h.ap, h.ge, h.ne⟩
theorem LmW.lt (h : LmW w W gF g0 g1 nm vp r vv vb tv vs ps bo) : gF < W.heap.size ∧ g1 < W.heap.size := ⟨blk_lt h.fb, blk_lt h.b1⟩
/-- A first row of values. -/
theorem LmW.newV (h : LmW w W gF g0 g1 nm vp r (.slice none 0 0) vb tv [] ps bo) (x : V3) : LmW w ((W.setCell ⟨gF, 8, none⟩ (.slice (some ⟨W.heap.size, 0, none⟩) 1 1)).alloc (.cells (encV x).toArray 42)) gF g0 g1 nm vp r (.slice (some ⟨W.heap.size, 0, none⟩) 1 1) vb tv [x] ps bo := by
  have ho := World.ownsRow_lit (base := w.heap.size) (e := 42) (size := 4) W (encV x).toArray 1 h.below.size (by unfold maxLen; omega) rfl
  have := h.appV (W4 := W.alloc (.cells (encV x).toArray 42)) (v1 := .slice (some ⟨W.heap.size, 0, none⟩) 1 1) (x := x) (by simpa using ho) (grown_of_below (below_alloc (Below.refl _ _) _) _)
  rw [World.setCell_alloc_past _ _ _ _ h.lt.1] at this
  exact this
/-- A first body. -/
theorem LmW.newB (h : LmW w W gF g0 g1 nm (.slice none 0 0) r vv (.slice none 0 0) tv vs ps []) (x : Int) : LmW w ((W.setCell ⟨g1, 1, none⟩ (.slice (some ⟨W.heap.size, 0, none⟩) 1 1)).alloc (.cells #[.int .i64 x] 3)) gF g0 g1 nm (.slice none 0 0) r vv (.slice (some ⟨W.heap.size, 0, none⟩) 1 1) tv vs ps [x] := by
  have ho := World.ownsRow_lit (base := w.heap.size) (e := 3) (size := 1) W #[.int .i64 x] 1 h.below.size (by unfold maxLen; omega) rfl
  have := h.appB (W4 := W.alloc (.cells #[.int .i64 x] 3)) (v1 := .slice (some ⟨W.heap.size, 0, none⟩) 1 1) (x := x) (by simpa [nums] using ho) (grown_of_below (below_alloc (Below.refl _ _) _) _)
  rw [World.setCell_alloc_past _ _ _ _ h.lt.2] at this
  exact this
def fN : ByteArray := ⟨#[102]⟩
def mainL : S38 := ⟨⟨#[109, 97, 105, 110]⟩, [], 0, [], [⟨[], [], ⟨3, -1, []⟩, []⟩]⟩
def limF (nm : ByteArray) (ps : List Int) (r : Int) (vs : List V3) (bo : List Int) (tv : Int) : S38 := ⟨nm, ps, r, vs.map toV, [⟨[], bo, ⟨3, tv, []⟩, []⟩]⟩
theorem LmW.check (h : LmW w W gF g0 g1 nm vp r vv vb tv vs ps bo) (hn : nm.size ≤ 3000000000000) {q : Int} (hE : checkE [mainL, limF nm ps r vs bo tv] 0 = q) :
    Calls Try.prog 12 #[.agg #[.slice (some ⟨gF, 0, none⟩) 2 2, .int .i64 0]] W fun e w' => e = .returned (.int .i64 q) ∧ Below W.heap.size W w' := by
  refine ssa_Check.calls (some ⟨gF, 0, none⟩) 2 [mainL, limF nm ps r vs bo tv] 0 q W h.C (Nat.le_refl _) ?_
  unfold ssa_Check.f
  rw [if_pos, hE]
  have h1 : fitF mainL = true := by decide
  simp only [List.all_cons, List.all_nil, Bool.and_true, h1, Bool.true_and]
  unfold fitF limF
  simp [hn]
theorem lim_init (w : World) : LmW w ((((w.alloc (.cells #[.slice none 0 0, .slice none 0 0, .int .i64 3, .int .i64 (-1), .slice none 0 0, .slice none 0 0] 46)).alloc (.cells #[.slice none 0 0, .slice none 0 0, .int .i64 3, .int .i64 (-1), .slice none 0 0, .slice none 0 0] 46)).alloc (.cells #[.string ⟨#[109, 97, 105, 110]⟩, .slice none 0 0, .int .i64 0, .slice none 0 0, .slice (some ⟨w.heap.size, 0, none⟩) 1 1, .string ⟨#[102]⟩, .slice none 0 0, .int .i64 0, .slice none 0 0, .slice (some ⟨w.heap.size + 1, 0, none⟩) 1 1] 38)).alloc (.cells #[.slice (some ⟨w.heap.size + 1 + 1, 0, none⟩) 2 2, .int .i64 0] 24))
    (w.heap.size + 1 + 1) w.heap.size (w.heap.size + 1) fN (.slice none 0 0) 0 (.slice none 0 0) (.slice none 0 0) (-1) [] [] [] := by
  refine ⟨below_alloc (below_alloc (below_alloc (below_alloc (Below.refl _ _) _) _) _) _, ?_, ?_, ?_, ?_, own_nil _ _ _ _, own_nil _ _ _ _, own_nil _ _ _ _, .inl rfl, by omega, by omega⟩
  · have h := blk_new (((w.alloc (.cells #[.slice none 0 0, .slice none 0 0, .int .i64 3, .int .i64 (-1), .slice none 0 0, .slice none 0 0] 46)).alloc (.cells #[.slice none 0 0, .slice none 0 0, .int .i64 3, .int .i64 (-1), .slice none 0 0, .slice none 0 0] 46)).alloc (.cells #[.string ⟨#[109, 97, 105, 110]⟩, .slice none 0 0, .int .i64 0, .slice none 0 0, .slice (some ⟨w.heap.size, 0, none⟩) 1 1, .string ⟨#[102]⟩, .slice none 0 0, .int .i64 0, .slice none 0 0, .slice (some ⟨w.heap.size + 1, 0, none⟩) 1 1] 38)) (.cells #[.slice (some ⟨w.heap.size + 1 + 1, 0, none⟩) 2 2, .int .i64 0] 24)
    rw [size_alloc', size_alloc', size_alloc'] at h
    exact h
  · have h := blk_new ((w.alloc (.cells #[.slice none 0 0, .slice none 0 0, .int .i64 3, .int .i64 (-1), .slice none 0 0, .slice none 0 0] 46)).alloc (.cells #[.slice none 0 0, .slice none 0 0, .int .i64 3, .int .i64 (-1), .slice none 0 0, .slice none 0 0] 46)) (.cells #[.string ⟨#[109, 97, 105, 110]⟩, .slice none 0 0, .int .i64 0, .slice none 0 0, .slice (some ⟨w.heap.size, 0, none⟩) 1 1, .string ⟨#[102]⟩, .slice none 0 0, .int .i64 0, .slice none 0 0, .slice (some ⟨w.heap.size + 1, 0, none⟩) 1 1] 38)
    rw [size_alloc', size_alloc'] at h
    exact blkB (below_alloc (Below.refl _ _) _) h
  · exact blkB (below_alloc (below_alloc (below_alloc (Below.refl _ _) _) _) _) (blk_new w (.cells #[.slice none 0 0, .slice none 0 0, .int .i64 3, .int .i64 (-1), .slice none 0 0, .slice none 0 0] 46))
  · have h := blk_new (w.alloc (.cells #[.slice none 0 0, .slice none 0 0, .int .i64 3, .int .i64 (-1), .slice none 0 0, .slice none 0 0] 46)) (.cells #[.slice none 0 0, .slice none 0 0, .int .i64 3, .int .i64 (-1), .slice none 0 0, .slice none 0 0] 46)
    rw [size_alloc'] at h
    exact blkB (below_alloc (below_alloc (Below.refl _ _) _) _) h
end
end Go.Proofs.Ytgbeliajhccndaa
