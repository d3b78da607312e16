/- Lemmas of this claim (WA). -/
import Derived.Test.YtgbeliajhccndaaQM
import Derived.Test.YtgbeliajhccndaaQT
import Derived.Test.YtgbeliajhccndaaQU
set_option linter.unusedVariables false
set_option linter.unusedSimpArgs false
namespace Go.Proofs.Ytgbeliajhccndaa
open Go.RowKit Go.Proofs.YtgbeliajhccndaaW.PrintWords Go.Proofs.YtgbeliajhccndaaW.PrintLast Go.Proofs.YtgbeliajhccndaaW.PrintMore PP
def encP (x : S67) : List Value := [.int .i64 x.f0, .int .i64 x.f1]
def plcL : List Int → List Int → List S67
  | a :: l, b :: r => ⟨a, b⟩ :: plcL l r
  | _, _ => []
theorem plcL_len : ∀ {n : Nat} {l r : List Int}, l.length = n → r.length = n → (plcL l r).length = n
  | 0, l, r, h, _ => by rw [List.length_eq_zero_iff.1 h]; cases r <;> rfl
  | n + 1, a :: l, b :: r, h, h' => by
    show (plcL l r).length + 1 = n + 1
    rw [plcL_len (n := n) (by simpa using h) (by simpa using h')]
  | n + 1, [], _, h, _ => by simp at h
  | n + 1, _ :: _, [], _, h => by simp at h
theorem plcL_get : ∀ {n : Nat} {l r : List Int}, l.length = n → r.length = n → ∀ (v : Nat), v < n → (plcL l r)[v]? = some ⟨l.getD v 0, r.getD v 0⟩
  | 0, _, _, _, _, v, hv => by omega
  | n + 1, a :: l, b :: r, _, _, 0, _ => rfl
  | n + 1, a :: l, b :: r, h, h', v + 1, hv => by
    show (plcL l r)[v]? = _
    rw [plcL_get (n := n) (by simpa using h) (by simpa using h') v (by omega)]
    simp
  | n + 1, [], _, h, _, _, _ => by simp at h
  | n + 1, _ :: _, [], _, h, _, _ => by simp at h
theorem plcL_set : ∀ {n : Nat} {l r : List Int}, l.length = n → r.length = n → ∀ (v : Nat) (b k : Int), v < n → ((((plcL l r).flatMap encP).set (v * 2) (.int .i64 b)).set (v * 2 + 1) (.int .i64 k)) = (plcL (l.set v b) (r.set v k)).flatMap encP
  | 0, _, _, _, _, v, _, _, hv => by omega
  | n + 1, a :: l, b :: r, _, _, 0, x, y, _ => rfl
  | n + 1, a :: l, b :: r, h, h', v + 1, x, y, hv => by
    have := plcL_set (n := n) (by simpa using h) (by simpa using h') v x y (by omega)
    show ((Value.int .i64 a :: Value.int .i64 b :: (plcL l r).flatMap encP).set ((v + 1) * 2) (.int .i64 x)).set ((v + 1) * 2 + 1) (.int .i64 y) = .int .i64 a :: .int .i64 b :: (plcL (l.set v x) (r.set v y)).flatMap encP
    rw [show (v + 1) * 2 = v * 2 + 1 + 1 from by omega]
    rw [List.set_cons_succ, List.set_cons_succ]
    show Value.int IntKind.i64 a :: ((Value.int IntKind.i64 b :: ((List.flatMap encP (plcL l r)).set (v * 2) (Value.int IntKind.i64 x))).set (v * 2 + 1 + 1) (Value.int IntKind.i64 y)) = _
    rw [List.set_cons_succ, this]
  | n + 1, [], _, h, _, _, _, _, _ => by simp at h
  | n + 1, _ :: _, [], _, h, _, _, _, _ => by simp at h
theorem flatP_get : ∀ (ps : List S67) (v : Nat) (x : S67), ps[v]? = some x → (ps.flatMap encP)[v * 2]? = some (.int .i64 x.f0) ∧ (ps.flatMap encP)[v * 2 + 1]? = some (.int .i64 x.f1)
  | [], v, x, h => by simp at h
  | y :: r, 0, x, h => by
    simp at h
    subst h
    exact ⟨rfl, rfl⟩
  | y :: r, v + 1, x, h => by
    have := flatP_get r v x (by simpa using h)
    rw [show (v + 1) * 2 = v * 2 + 1 + 1 from by omega]
    exact this
theorem flatP_len : ∀ (ps : List S67), (ps.flatMap encP).length = ps.length * 2
  | [] => rfl
  | h :: r => by rw [List.flatMap_cons, List.length_append, flatP_len r, show (encP h).length = 2 from rfl, List.length_cons]; omega
theorem flatP_reps (W : World) (base : Nat) (ok : Nat → Prop) : ∀ (ps : List S67), Reps (k67.M W base ok) 2 ps (ps.flatMap encP)
  | ps => by
    refine ⟨flatP_len ps, fun j p hj => ?_⟩
    have h : ((ps.flatMap encP).drop (j * 2)).take 2 = encP p := by
      obtain ⟨h0, h1⟩ := flatP_get ps j p hj
      have hl : j * 2 + 1 < (ps.flatMap encP).length := (List.getElem?_eq_some_iff.1 h1).1
      rw [List.drop_eq_getElem_cons (by omega), List.drop_eq_getElem_cons (by omega)]
      rw [List.getElem?_eq_getElem (by omega)] at h0 h1
      injection h0 with h0
      injection h1 with h1
      rw [h0, h1]
      rfl
    rw [h]
    exact k67_mkM W base ok p
theorem reps_flatP {R : S67 → List Value → Prop} (hR : ∀ x c, R x c → c = encP x) : ∀ {ps : List S67} {cs : List Value}, Reps R 2 ps cs → cs = ps.flatMap encP
  | [], cs, h => List.length_eq_zero_iff.1 (by have := h.1; simpa using this)
  | p :: r, cs, h => by
    have h0 := hR _ _ (h.2 0 p rfl)
    have hr : Reps R 2 r (cs.drop 2) := by
      refine ⟨by have := h.1; rw [List.length_drop, this, List.length_cons]; omega, fun j q hq => ?_⟩
      have := h.2 (j + 1) q (by simpa using hq)
      rw [List.drop_drop, show 2 + j * 2 = (j + 1) * 2 from by omega]
      exact this
    have h1 := reps_flatP hR hr
    rw [Nat.zero_mul, List.drop_zero] at h0
    rw [← List.take_append_drop 2 cs, h0, h1]
    rfl
theorem made_row {W : World} {base : Nat} {n c g : Nat} {ok : Nat → Prop} (h : k67.R 67 W base ok (.slice (some ⟨g, 0, none⟩) n c) (List.replicate n z67)) : W.ownsRow base 67 2 (.slice (some ⟨g, 0, none⟩) n c) n ((plcL (List.replicate n 0) (List.replicate n 0)).flatMap encP) := by
  obtain ⟨_, inner, ho, hr⟩ := h
  have e := reps_flatP (fun x c hx => k67_openM hx) hr
  have e2 : plcL (List.replicate n 0) (List.replicate n 0) = List.replicate n z67 := by
    apply List.ext_getElem?
    intro v
    rcases Nat.lt_or_ge v n with hv | hv
    · rw [plcL_get (n := n) (by simp) (by simp) v hv]
      simp [hv, z67]
    · rw [List.getElem?_eq_none (by rw [plcL_len (n := n) (by simp) (by simp)]; exact hv), List.getElem?_eq_none (by simpa using hv)]
  rw [e2, ← e]
  have := ho
  rw [List.length_replicate] at this
  exact this
theorem made_form {α : Type} {d : Kd α} {e : Nat} {W : World} {base : Nat} {ok : Nat → Prop} {v : Value} {xs : List α} (h : d.R e W base ok v xs) (hb : ∃ b, v.ownBlock = some b) : ∃ g c, v = .slice (some ⟨g, 0, none⟩) xs.length c := by
  obtain ⟨_, inner, ho, _⟩ := h
  rcases ho.2 with ⟨e, _⟩ | ⟨g, cap, cur, e, _⟩
  · obtain ⟨b, hb⟩ := hb
    rw [e] at hb
    simp [Value.ownBlock] at hb
  · exact ⟨g, cap, e⟩
structure Md (w W : World) (gF gp gt : Nat) (fc : Array Value) (n cp ct : Nat) (s : Tri) : Prop where
  below : Below w.heap.size w W
  fb : W.heap[gF]? = some (.cells fc 38 (0, 0))
  rp : W.ownsRow w.heap.size 67 2 (.slice (some ⟨gp, 0, none⟩) n cp) n ((plcL s.1 s.2.1).flatMap encP)
  rt : W.ownsRow w.heap.size 3 1 (.slice (some ⟨gt, 0, none⟩) n ct) n (nums .i64 s.2.2)
  l1 : s.1.length = n
  l2 : s.2.1.length = n
  l3 : s.2.2.length = n
section
variable {w W W' : World} {gF gp gt : Nat} {fc : Array Value} {n cp ct : Nat} {s : Tri}
theorem Md.then_ (h : Md w W gF gp gt fc n cp ct s) (hb : Below W.heap.size W W') : Md w W' gF gp gt fc n cp ct s :=
  ⟨below_then h.below h.below.size hb, blkB hb h.fb, pw_own_below h.rp hb, pw_own_below h.rt hb, h.l1, h.l2, h.l3⟩
theorem Md.ty (h : Md w W gF gp gt fc n cp ct s) : (∃ c : Array Value, W.heap[gp]? = some (.cells c 67 (0, 0))) ∧ (∃ c : Array Value, W.heap[gt]? = some (.cells c 3 (0, 0))) ∧ w.heap.size ≤ gp ∧ w.heap.size ≤ gt :=
  ⟨own_typed h.rp gp rfl, own_typed h.rt gt rfl, own_base h.rp gp rfl, own_base h.rt gt rfl⟩
theorem Md.cellP (h : Md w W gF gp gt fc n cp ct s) {v : Nat} (hv : v < n) : (W.cell? ⟨gp, v * 2, none⟩ = some (.int .i64 (s.1.getD v 0)) ∧ W.frozen? ⟨gp, v * 2, none⟩ = false) ∧ (W.cell? ⟨gp, v * 2 + 1, none⟩ = some (.int .i64 (s.2.1.getD v 0)) ∧ W.frozen? ⟨gp, v * 2 + 1, none⟩ = false) := by
  obtain ⟨h0, h1⟩ := flatP_get _ v _ (plcL_get h.l1 h.l2 v hv)
  exact ⟨own_cell h.rp h0, own_cell h.rp h1⟩
theorem Md.cellT (h : Md w W gF gp gt fc n cp ct s) {v : Nat} (hv : v < n) : W.cell? ⟨gt, v, none⟩ = some (.int .i64 (s.2.2.getD v 0)) ∧ W.frozen? ⟨gt, v, none⟩ = false :=
  own_cell h.rt (by
    have := h.l3
    simp [nums, List.getD_eq_getElem?_getD, List.getElem?_eq_getElem (show v < s.2.2.length by omega)])
theorem Md.putP (h : Md w W gF gp gt fc n cp ct s) {v : Nat} (hv : v < n) (b k : Int) : Md w ((W.setCell ⟨gp, v * 2, none⟩ (.int .i64 b)).setCell ⟨gp, v * 2 + 1, none⟩ (.int .i64 k)) gF gp gt fc n cp ct (s.1.set v b, s.2.1.set v k, s.2.2) := by
  obtain ⟨⟨c, hc⟩, ⟨c2, hc2⟩, h1, h2⟩ := h.ty
  have hne : gt ≠ gp := ty_ne hc2 hc (by decide)
  have hr := ((h.rp.stored (v * 2) (.int .i64 b)).1.stored (v * 2 + 1) (.int .i64 k)).1
  rw [plcL_set h.l1 h.l2 v b k hv] at hr
  have ht := own_setCell (own_setCell h.rt (p := ⟨gp, v * 2, none⟩) (by simp [Value.ownBlock]; exact hne.symm) (.int .i64 b)) (p := ⟨gp, v * 2 + 1, none⟩) (by simp [Value.ownBlock]; exact hne.symm) (.int .i64 k)
  have hf := ty_ne h.fb hc (by decide)
  exact ⟨below_set (below_set h.below h1) h1, blk_far (blk_far h.fb hf _) hf _, hr, ht, by simp [h.l1], by simp [h.l2], h.l3⟩
theorem Md.putT (h : Md w W gF gp gt fc n cp ct s) (v : Nat) (x : Int) : Md w (W.setCell ⟨gt, v, none⟩ (.int .i64 x)) gF gp gt fc n cp ct (s.1, s.2.1, s.2.2.set v x) := by
  obtain ⟨⟨c, hc⟩, ⟨c2, hc2⟩, h1, h2⟩ := h.ty
  have hr := (h.rt.stored v (.int .i64 x)).1
  have hp := own_setCell h.rp (p := ⟨gt, v, none⟩) (by simp [Value.ownBlock]; exact ty_ne hc2 hc (by decide)) (.int .i64 x)
  refine ⟨below_set h.below h2, blk_far h.fb (ty_ne h.fb hc2 (by decide)) _, hp, ?_, h.l1, h.l2, by simp [h.l3]⟩
  have e : (nums .i64 s.2.2).set v (.int .i64 x) = nums .i64 (s.2.2.set v x) := by simp [nums, List.map_set]
  rw [← e]
  exact hr
theorem Md.C (h : Md w W gF gp gt fc n cp ct s) : k67.C W (some ⟨gp, 0, none⟩) n (plcL s.1 s.2.1) ∧ n ≤ cp := by
  obtain ⟨A, c, e, hC⟩ := own_reads_row h.rp ((flatP_reps W 0 (fun _ => True) (plcL s.1 s.2.1)).imp_ (fun _ _ hx => k67.K_of_M hx)) (plcL_len h.l1 h.l2)
  injection e with e1 e2 e3
  subst e1
  refine ⟨hC, ?_⟩
  rcases h.rp.2 with ⟨e, _⟩ | ⟨g, cap, cur, e, _, _, hn, _⟩
  · simp at e
  · injection e with _ _ e
    omega
end
end Go.Proofs.Ytgbeliajhccndaa
