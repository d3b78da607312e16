/- Chapter 9: the walks of called, fits. Chapter 9: the walk of types. Chapter 9: headers; the walk of ways; all of bools. Chapters 8, 9: the walks of all[bool], dom.good. Chapter 8: dom.lined: the plain function, and its walk. Chapter 8: dom.Reach; chapter 9: reach. Chapter 9: the walk of phis. Chapter 9: rows of ints that are known whole; the walk of once. -/
import Derived.Test.YtgbeliajhccndaaZB
import Derived.Test.YtgbeliajhccndaaWKept
set_option linter.unusedVariables false
set_option linter.unusedSimpArgs false
namespace Go.Proofs.Ytgbeliajhccndaa
open Go.RowKit Go.Proofs.YtgbeliajhccndaaW.PrintWords Go.Proofs.YtgbeliajhccndaaW.PrintLast Go.Proofs.YtgbeliajhccndaaW.PrintMore PP

/-- The operands of a call against the parameters of what is called. -/
def callB (f h : S38) : List Int → List Int → Bool
  | [], _ => true
  | _ :: _, [] => false
  | a :: r, q :: s => (typeOf h q != 0 && typeOf f a == typeOf h q) && callB f h r s
theorem call_step {f h : S38} {l s : List Int} {i : Nat} (hi : i < l.length) (hs : i < s.length) : callB f h (l.drop i) (s.drop i) = ((typeOf h (s.getD i 0) != 0 && typeOf f (l.getD i 0) == typeOf h (s.getD i 0)) && callB f h (l.drop (i + 1)) (s.drop (i + 1))) := by
  rw [List.drop_eq_getElem_cons hi, List.drop_eq_getElem_cons hs, callB]
  simp [List.getD_eq_getElem?_getD, hi, hs]
def calledB (d : Ck) (t im : Int) (l : List Int) : Bool := callB d.f (rd_T38 d.fs im) l (rd_T38 d.fs im).f1 && t == (rd_T38 d.fs im).f2
set_option maxHeartbeats 4000000 in
theorem called_any (g : Nat) (d : Ck) (v3 v4 v5 v6 : Value) (o t im : Int) (B : Option Addr) (kk : Nat) (l : List Int) (w : World) (h : CkW w g d v3 v4 v5 v6)
    (hr : (Kd.int .i64).C w B l.length l) (hk : l.length ≤ kk) (him : inB d.fs.length im = true) (hl : l.length = (rd_T38 d.fs im).f1.length) (hin : l.all (inB d.f.f3.length) = true) (hin2 : (rd_T38 d.fs im).f1.all (inB (rd_T38 d.fs im).f3.length) = true) :
    Calls Try.prog 69 #[.pointer (some ⟨g, 0, none⟩), .agg #[.int .i64 o, .int .i64 t, .int .i64 im, .slice B l.length kk]] w fun e w' => e = .returned (.bool (calledB d t im l)) ∧ Below w.heap.size w w' := by
  have hm := hr.2.1
  have hm3 := h.at_.r3.2.1
  have hm0 := h.fs_.2.1
  obtain ⟨i0, i1⟩ := inB_iff him
  obtain ⟨adq, Q1, k1, Q3, k3, Q4, k4, hAq, hQ⟩ := FnAt.of h.fs_ im i0 i1
  have HK := Lib.hid h
  have HR := Lib.hid hr
  have HI := Lib.hid hin
  have HI2 := Lib.hid hin2
  have HQ := Lib.hid hQ
  have hmq := hQ.r3.2.1
  have hmq1 := hQ.r1.2.1
  have HD : Hid (calledB d t im l = (callB d.f (rd_T38 d.fs im) l (rd_T38 d.fs im).f1 && t == (rd_T38 d.fs im).f2)) := Lib.hid rfl
  have HLE := Lib.hid hl
  have y0 := fun o => cellO h.y0 o
  rw [hAq] at y0
  clear h hr hin hin2 hQ hl him
  generalize rd_T38 d.fs im = x at *
  go_enter Try.func69, Try.ntmps69
  go_wp2
  go_quiet (fail)
  clear y0
  go_wp2
  go_loopg [6, 7, 8, 20] (l.length) (fun k _ _ _ v wr => ∃ i : Nat, i ≤ l.length ∧ v = .int .i64 i ∧ Hid (i + k = l.length) ∧ Hid (callB d.f x l x.f1 = callB d.f x (l.drop i) (x.f1.drop i)) ∧ Hid (Below w.heap.size w wr) ∧ Hid (wr.heap[w.heap.size]? = some (.cells #[.int .i64 o, .int .i64 t, .int .i64 im, .slice B l.length kk] 42 (0, 0))))
  case atStart => exact ⟨0, by omega, rfl, Lib.hid (by omega), Lib.hid (by simp), Lib.hid (pw_below_drewN (below_alloc (Below.refl _ _) _) _), Lib.hid (blk_new w _)⟩
  case round =>
    obtain ⟨i, hi, rfl, HG, HP, HB, HBK⟩ := hrel
    have z3 : wr.cell? ⟨w.heap.size, 3, none⟩ = some (.slice B l.length kk) := (blk_cell HBK.out 3).trans rfl
    have z1 : wr.cell? ⟨w.heap.size, 1, none⟩ = some (.int .i64 t) := (blk_cell HBK.out 1).trans rfl
    have q2 := (HQ.out.below HB.out).c2
    by_cases hlt : i < l.length
    · obtain ⟨ad, hA, r0⟩ := int_at (Kd.C_below HR.out HB.out) hlt
      have hlt2 : i < x.f1.length := by have := HLE.out; omega
      obtain ⟨ad2, hA2, r1⟩ := int_at (i := i) (HQ.out.below HB.out).r1 hlt2
      have ha := List.all_eq_true.1 HI.out _ (mem_getD 0 hlt)
      have hb := List.all_eq_true.1 HI2.out _ (mem_getD 0 hlt2)
      have HE := Lib.hid (HP.out.trans (call_step hlt hlt2))
      generalize l.getD i 0 = a at *
      generalize x.f1.getD i 0 = b at *
      have q1 := (HQ.out.below HB.out).c1
      have q3 := (HQ.out.below HB.out).c3
      obtain ⟨ad3, B3, d3, hA3, _, t3, _, _, _, _⟩ := val_at (HK.out.below HB.out).at_.r3 ha
      obtain ⟨ad4, B4, d4, hA4, _, t4, _, _, _, _⟩ := val_at (HQ.out.below HB.out).r3 hb
      have y2 := (HK.out.below HB.out).y2
      have x3 := (HK.out.below HB.out).at_.c3
      rw [hA3] at x3
      obtain rfl := hA
      rw [hA2] at q1
      rw [hA4] at q3
      obtain ⟨a0, a1⟩ := inB_iff ha
      obtain ⟨b0, b1⟩ := inB_iff hb
      clear ha hb hA2 hA3 hA4
      generalize typeOf d.f a = ty at *
      generalize typeOf x b = tz at *
      by_cases h0 : tz = 0
      · subst h0
        go_wp2
        go_quiet (fail)
        go_wp2
        go_ret
        exact ⟨ret_bool (by rw [HD.out, HE.out]; rfl), pw_below_drewN HB.out _⟩
      · have h0' : (tz == 0) = false := by simpa using h0
        by_cases he : ty = tz
        · subst he
          go_wp2
          go_quiet (fail)
          go_wp2
          go_roundg (gk - 1)
          case measure => have := HG.out; omega
          case rel => exact ⟨i + 1, by omega, by go_num, Lib.hid (by have := HG.out; omega), Lib.hid (by have := HE.out; rw [(by simpa using h0 : (ty != 0) = true)] at this; simpa using this), Lib.hid (pw_below_drewN HB.out _), HBK⟩
        · have he1 : (ty != tz) = true := by simpa using he
          have he2 : (ty == tz) = false := by simpa using he
          go_wp2
          go_quiet (fail)
          go_wp2
          go_ret
          exact ⟨ret_bool (by rw [HD.out, HE.out, he2]; simp), pw_below_drewN HB.out _⟩
    · have HE : Hid (callB d.f x l x.f1 = true) := Lib.hid (by rw [HP.out, List.drop_eq_nil_of_le (by omega), callB])
      go_wp2
      go_quiet (fail)
      go_wp2
      go_ret
      exact ⟨ret_bool (by rw [HD.out, HE.out]; rfl), pw_below_drewN HB.out _⟩
theorem called_b (g : Nat) (d : Ck) (v3 v4 v5 v6 : Value) (o t im : Int) (B : Option Addr) (kk : Nat) (l : List Int) (w : World) (h : CkW w g d v3 v4 v5 v6)
    (hr : (Kd.int .i64).C w B l.length l) (hk : l.length ≤ kk) (him : inB d.fs.length im = true) (hl : l.length = (rd_T38 d.fs im).f1.length) (hin : l.all (inB d.f.f3.length) = true) (hin2 : (rd_T38 d.fs im).f1.all (inB (rd_T38 d.fs im).f3.length) = true) :
    Calls Try.prog 69 #[.pointer (some ⟨g, 0, none⟩), .agg #[.int .i64 o, .int .i64 t, .int .i64 im, .slice B l.length kk]] w fun e w' => ∃ b, e = .returned (.bool b) ∧ Hid (calledB d t im l = b) ∧ Below w.heap.size w w' :=
  (called_any g d v3 v4 v5 v6 o t im B kk l w h hr hk him hl hin hin2).mono (fun e w' h => ⟨_, h.1, Lib.hid rfl, h.2⟩)
theorem are_b (g : Nat) (d : Ck) (v3 v4 v5 v6 : Value) (o t im : Int) (B : Option Addr) (k : Nat) (l : List Int) (S : Option Addr) (ks : Nat) (s : List Int) (w : World) (h : CkW w g d v3 v4 v5 v6)
    (hr : (Kd.int .i64).C w B l.length l) (hk : l.length ≤ k) (hs : (Kd.int .i64).C w S s.length s) (hks : s.length ≤ ks) (hl : l.length ≤ s.length) (hin : l.all (inB d.f.f3.length) = true) :
    Calls Try.prog 68 #[.pointer (some ⟨g, 0, none⟩), .agg #[.int .i64 o, .int .i64 t, .int .i64 im, .slice B l.length k], .slice S s.length ks] w fun e w' => ∃ b, e = .returned (.bool b) ∧ Hid (areB d.f l s = b) ∧ Below w.heap.size w w' :=
  (are_any g d v3 v4 v5 v6 o t im B k l S ks s w h hr hk hs hks hl hin).mono (fun e w' h => ⟨_, h.1, Lib.hid rfl, h.2⟩)
set_option maxHeartbeats 2000000 in
theorem same_any (g g2 g3 : Nat) (d : Ck) (v3 v4 v5 v6 : Value) (t a : Int) (w : World) (h : CkW w g d v3 v4 v5 v6) (h2 : w.cell? ⟨g2, 0, none⟩ = some (.pointer (some ⟨g, 0, none⟩))) (h3 : w.cell? ⟨g3, 1, none⟩ = some (.int .i64 t)) (ha : inB d.f.f3.length a = true) :
    Calls Try.prog 70 #[.int .i64 a, .pointer (some ⟨g2, 0, none⟩), .pointer (some ⟨g3, 0, none⟩)] w fun e w' => e = .returned (.bool (typeOf d.f a == t)) ∧ Below w.heap.size w w' := by
  obtain ⟨ad3, B3, d3, hA3, _, t3, _, _, _, _⟩ := val_at h.at_.r3 ha
  have hm3 := h.at_.r3.2.1
  have y2 := h.y2
  have x3 := h.at_.c3
  rw [hA3] at x3
  obtain ⟨a0, a1⟩ := inB_iff ha
  clear ha h hA3
  generalize typeOf d.f a = ty at *
  go_enter Try.func70, Try.ntmps70
  go_wp2
  go_quiet (fail)
  go_wp2
  go_ret
  exact ⟨rfl, pw_below_drewN (Below.refl _ _) _⟩
theorem enter70 (args : Array Value) (w : World) : (callFunc 70 args).run Try.prog w = .ok (.enter 70 args) w := run_enter Try.func70 (by kernel_rfl) (by kernel_rfl) args w
theorem add_zero (ad : Addr) : ad.add 0 = ad := by unfold Addr.add; simp
theorem lit_reads (W : World) (s : List Int) (hs : s.length ≤ 9) : (Kd.int .i64).C (W.alloc (.cells (s.map (Value.int .i64)).toArray 3)) (some ⟨W.heap.size, 0, none⟩) s.length s := by
  refine ⟨rfl, by omega, fun _ => ⟨_, rfl, fun j x hj => ⟨[.int .i64 x], rfl, rfl, fun i u hu => ?_⟩⟩⟩
  have hi : i = 0 := by
    cases i with
    | zero => rfl
    | succ n => simp at hu
  subst hi
  simp at hu
  subst hu
  have e : (⟨W.heap.size, 0, none⟩ : Addr).add (j * 1 + 0) = ⟨W.heap.size, j, none⟩ := by rw [add_plain]; simp
  show (W.alloc (.cells (s.map (Value.int .i64)).toArray 3)).cell? ((⟨W.heap.size, 0, none⟩ : Addr).add (j * 1 + 0)) = _
  rw [e, blk_cell (blk_new W _) j]
  simp [hj]
/-- The document's want of an operation (2: as many as there are, all the same). -/
def wantB (o : Int) : List Int × Int :=
  if o = 15 ∨ o = 16 then ([1, 1], 2) else if o = 19 then ([2], 2) else if o = 20 then ([3], 1) else if o = 21 then ([3, 1], 1) else if o = 22 then ([3, 1, 1], 0) else if o = 23 then ([1], 3)
  else if o = 27 then ([2], 0) else if o = 26 ∨ o = 28 ∨ o = 29 ∨ o = 30 then ([1, 1], 0) else ([1, 1], 1)
def fitsB (d : Ck) (v : S42) : Bool :=
  if v.f0 = 1 then v.f1 == 1 || (v.f1 == 2 && (v.f2 == 0 || v.f2 == 1)) || (v.f1 == 3 && v.f2 == 0)
  else if v.f0 = 13 ∨ v.f0 = 14 then (v.f1 == 2 && typeOf d.f (v.f3.getD 0 0) != 0) && areB d.f v.f3 [typeOf d.f (v.f3.getD 0 0), typeOf d.f (v.f3.getD 0 0)]
  else if v.f0 = 25 then calledB d v.f1 v.f2 v.f3
  else if v.f0 = 32 then v.f1 != 0 && v.f3.all (fun a => typeOf d.f a == v.f1)
  else if v.f0 = 33 then v.f1 != 0
  else v.f1 == (wantB v.f0).2 && areB d.f v.f3 (wantB v.f0).1
theorem fits_const {d : Ck} {t im : Int} {l : List Int} (h2 : ¬ t = 2) (h3 : ¬ t = 3) : (t == 1) = fitsB d ⟨1, t, im, l⟩ := by
  have h2 : (t == 2) = false := by simpa using h2
  have h3 : (t == 3) = false := by simpa using h3
  simp only [fitsB, if_true, h2, h3]; simp
theorem val_two {fs : List S38} {o t im : Int} {l : List Int} (h : valueB fs ⟨o, t, im, l⟩ = true) (ho : ¬ (o = 25 ∨ o = 32 ∨ o = 22)) : l.length ≤ 2 := by
  have h1 : operandsI o ≤ 2 := by unfold operandsI; repeat' split <;> omega
  unfold valueB at h
  dsimp only at h
  rw [Bool.and_eq_true] at h
  obtain ⟨_, h⟩ := h
  repeat' split at h
  all_goals (simp only [Bool.and_eq_true, beq_iff_eq, decide_eq_true_eq] at h; omega)
theorem val25 {fs : List S38} {t im : Int} {l : List Int} (h : valueB fs ⟨25, t, im, l⟩ = true) : inB fs.length im = true ∧ l.length = (rd_T38 fs im).f1.length := by
  have e : valueB fs ⟨25, t, im, l⟩ = (decide (0 ≤ t) && decide (t ≤ 3) && (decide (0 ≤ im) && decide (im < (fs.length : Int)) && (l.length : Int) == ((rd_T38 fs im).f1.length : Int))) := rfl
  rw [e] at h
  simp only [Bool.and_eq_true, beq_iff_eq] at h
  exact ⟨by unfold inB; rw [h.2.1.1, h.2.1.2]; rfl, by have := h.2.2; omega⟩
theorem val13 {fs : List S38} {o t im : Int} {l : List Int} (h : valueB fs ⟨o, t, im, l⟩ = true) (ho : o = 13 ∨ o = 14) : l.length = 2 := by
  have e : valueB fs ⟨o, t, im, l⟩ = (decide (0 ≤ t) && decide (t ≤ 3) && (decide ((0 : Int) ≤ 2) && (l.length : Int) == 2 && im == 0)) := by rcases ho with rfl | rfl <;> rfl
  rw [e] at h
  simp only [Bool.and_eq_true, beq_iff_eq] at h
  have := h.2.1.2
  omega
set_option maxRecDepth 100000 in
set_option maxHeartbeats 4000000 in
theorem fits_any (g : Nat) (d : Ck) (v3 v4 v5 v6 : Value) (v : S42) (B : Option Addr) (kk : Nat) (w : World) (h : CkW w g d v3 v4 v5 v6)
    (hr : (Kd.int .i64).C w B v.f3.length v.f3) (hk : v.f3.length ≤ kk) (hv : valueB d.fs v = true) (hin : v.f3.all (inB d.f.f3.length) = true) (hfun : ∀ i, inB d.fs.length i = true → (rd_T38 d.fs i).f1.all (inB (rd_T38 d.fs i).f3.length) = true) :
    Calls Try.prog 46 #[.pointer (some ⟨g, 0, none⟩), .agg #[.int .i64 v.f0, .int .i64 v.f1, .int .i64 v.f2, .slice B v.f3.length kk]] w fun e w' => e = .returned (.bool (fitsB d v)) ∧ Below w.heap.size w w' := by
  have HK := Lib.hid h
  have HR := Lib.hid hr
  have HV := Lib.hid hv
  have HI := Lib.hid hin
  have HF := Lib.hid hfun
  clear h hr hv hin hfun
  obtain ⟨o, t, im, l⟩ := v
  dsimp only
  by_cases h1 : o = 1
  · subst h1
    go_enter Try.func46, Try.ntmps46
    go_wp2
    all_goals
      go_ret
      exact ⟨ret_bool (by first | (simp [fitsB]; done) | exact fits_const ‹¬t = 2› ‹¬t = 3›), below_alloc (below_alloc (Below.refl _ _) _) _⟩
  have HK2 : Hid (∀ O O', CkW ((w.alloc O).alloc O') g d v3 v4 v5 v6) := Lib.hid (fun O O' => (HK.out.below (below_alloc (Below.refl _ _) O)).below (below_alloc (Below.refl _ _) O'))
  have HB2 : Hid (∀ O O', Below w.heap.size w ((w.alloc O).alloc O')) := Lib.hid (fun O O' => below_alloc (below_alloc (Below.refl _ _) O) O')
  have LIT : Hid (∀ (O O' : Obj) (s : List Int), s.length ≤ 9 → (Kd.int .i64).C (((w.alloc O).alloc O').alloc (.cells (s.map (Value.int .i64)).toArray 3)) (some ⟨w.heap.size + 1 + 1, 0, none⟩) s.length s) := Lib.hid (fun O O' s hs => by
    have h := lit_reads ((w.alloc O).alloc O') s hs
    rwa [World.size_alloc, World.size_alloc] at h)
  have HB3 : Hid (∀ O O' O'', Below w.heap.size w (((w.alloc O).alloc O').alloc O'')) := Lib.hid (fun O O' O'' => below_alloc (HB2.out O O') O'')
  have HK3 : Hid (∀ O O' O'', CkW (((w.alloc O).alloc O').alloc O'') g d v3 v4 v5 v6) := Lib.hid (fun O O' O'' => (HK2.out O O').below (below_alloc (Below.refl _ _) O''))
  by_cases h15 : o = 15
  · subst h15
    have HLE : Hid (l.length ≤ ([1, 1] : List Int).length) := Lib.hid (by have h := HV.out; simp [valueB, operandsI] at h; simp; omega)
    have HKS : Hid (([1, 1] : List Int).length ≤ 2) := Lib.hid (by decide)
    have LITS : Hid (∀ O O' : Obj, (Kd.int .i64).C (((w.alloc O).alloc O').alloc (.cells #[.int .i64 1, .int .i64 1] 3)) (some ⟨w.heap.size + 1 + 1, 0, none⟩) ([1, 1] : List Int).length [1, 1]) := Lib.hid (fun O O' => LIT.out O O' [1, 1] (by decide))
    have HD : Hid (fitsB d ⟨15, t, im, l⟩ = (t == 2 && areB d.f l [1, 1])) := Lib.hid rfl
    by_cases ht : t = 2
    · subst ht
      go_enter Try.func46, Try.ntmps46
      go_wp2_with (first | (go_at_call 68; with_reducible refine Calls.mono (are_b g d v3 v4 v5 v6 15 2 im B kk l (some ⟨w.heap.size + 1 + 1, 0, none⟩) 2 [1, 1] _ ?_ ?_ hk ?_ HKS.out HLE.out HI.out) ?_; exact HK3.out _ _ _; exact Kd.C_below HR.out (HB3.out _ _ _); exact LITS.out _ _; rintro e w2 ⟨b, rfl, HA, hb⟩; have HBf := Lib.hid (below_then (HB3.out _ _ _) (HB3.out _ _ _).size hb); clear hb) | (go_at_call 68; refine stop_intro ?_))
      go_ret
      exact ⟨ret_bool (by rw [HD.out, HA.out]; rfl), HBf.out⟩
    · have ht' : (t == 2) = false := by simpa using ht
      go_enter Try.func46, Try.ntmps46
      go_wp2
      go_ret
      exact ⟨ret_bool (by rw [HD.out, ht']; rfl), HB2.out _ _⟩
  by_cases h16 : o = 16
  · subst h16
    have HLE : Hid (l.length ≤ ([1, 1] : List Int).length) := Lib.hid (by have h := HV.out; simp [valueB, operandsI] at h; simp; omega)
    have HKS : Hid (([1, 1] : List Int).length ≤ 2) := Lib.hid (by decide)
    have LITS : Hid (∀ O O' : Obj, (Kd.int .i64).C (((w.alloc O).alloc O').alloc (.cells #[.int .i64 1, .int .i64 1] 3)) (some ⟨w.heap.size + 1 + 1, 0, none⟩) ([1, 1] : List Int).length [1, 1]) := Lib.hid (fun O O' => LIT.out O O' [1, 1] (by decide))
    have HD : Hid (fitsB d ⟨16, t, im, l⟩ = (t == 2 && areB d.f l [1, 1])) := Lib.hid rfl
    by_cases ht : t = 2
    · subst ht
      go_enter Try.func46, Try.ntmps46
      go_wp2_with (first | (go_at_call 68; with_reducible refine Calls.mono (are_b g d v3 v4 v5 v6 16 2 im B kk l (some ⟨w.heap.size + 1 + 1, 0, none⟩) 2 [1, 1] _ ?_ ?_ hk ?_ HKS.out HLE.out HI.out) ?_; exact HK3.out _ _ _; exact Kd.C_below HR.out (HB3.out _ _ _); exact LITS.out _ _; rintro e w2 ⟨b, rfl, HA, hb⟩; have HBf := Lib.hid (below_then (HB3.out _ _ _) (HB3.out _ _ _).size hb); clear hb) | (go_at_call 68; refine stop_intro ?_))
      go_ret
      exact ⟨ret_bool (by rw [HD.out, HA.out]; rfl), HBf.out⟩
    · have ht' : (t == 2) = false := by simpa using ht
      go_enter Try.func46, Try.ntmps46
      go_wp2
      go_ret
      exact ⟨ret_bool (by rw [HD.out, ht']; rfl), HB2.out _ _⟩
  by_cases h19 : o = 19
  · subst h19
    have HLE : Hid (l.length ≤ ([2] : List Int).length) := Lib.hid (by have h := HV.out; simp [valueB, operandsI] at h; simp; omega)
    have HKS : Hid (([2] : List Int).length ≤ 1) := Lib.hid (by decide)
    have LITS : Hid (∀ O O' : Obj, (Kd.int .i64).C (((w.alloc O).alloc O').alloc (.cells #[.int .i64 2] 3)) (some ⟨w.heap.size + 1 + 1, 0, none⟩) ([2] : List Int).length [2]) := Lib.hid (fun O O' => LIT.out O O' [2] (by decide))
    have HD : Hid (fitsB d ⟨19, t, im, l⟩ = (t == 2 && areB d.f l [2])) := Lib.hid rfl
    by_cases ht : t = 2
    · subst ht
      go_enter Try.func46, Try.ntmps46
      go_wp2_with (first | (go_at_call 68; with_reducible refine Calls.mono (are_b g d v3 v4 v5 v6 19 2 im B kk l (some ⟨w.heap.size + 1 + 1, 0, none⟩) 1 [2] _ ?_ ?_ hk ?_ HKS.out HLE.out HI.out) ?_; exact HK3.out _ _ _; exact Kd.C_below HR.out (HB3.out _ _ _); exact LITS.out _ _; rintro e w2 ⟨b, rfl, HA, hb⟩; have HBf := Lib.hid (below_then (HB3.out _ _ _) (HB3.out _ _ _).size hb); clear hb) | (go_at_call 68; refine stop_intro ?_))
      go_ret
      exact ⟨ret_bool (by rw [HD.out, HA.out]; rfl), HBf.out⟩
    · have ht' : (t == 2) = false := by simpa using ht
      go_enter Try.func46, Try.ntmps46
      go_wp2
      go_ret
      exact ⟨ret_bool (by rw [HD.out, ht']; rfl), HB2.out _ _⟩
  by_cases h20 : o = 20
  · subst h20
    have HLE : Hid (l.length ≤ ([3] : List Int).length) := Lib.hid (by have h := HV.out; simp [valueB, operandsI] at h; simp; omega)
    have HKS : Hid (([3] : List Int).length ≤ 1) := Lib.hid (by decide)
    have LITS : Hid (∀ O O' : Obj, (Kd.int .i64).C (((w.alloc O).alloc O').alloc (.cells #[.int .i64 3] 3)) (some ⟨w.heap.size + 1 + 1, 0, none⟩) ([3] : List Int).length [3]) := Lib.hid (fun O O' => LIT.out O O' [3] (by decide))
    have HD : Hid (fitsB d ⟨20, t, im, l⟩ = (t == 1 && areB d.f l [3])) := Lib.hid rfl
    by_cases ht : t = 1
    · subst ht
      go_enter Try.func46, Try.ntmps46
      go_wp2_with (first | (go_at_call 68; with_reducible refine Calls.mono (are_b g d v3 v4 v5 v6 20 1 im B kk l (some ⟨w.heap.size + 1 + 1, 0, none⟩) 1 [3] _ ?_ ?_ hk ?_ HKS.out HLE.out HI.out) ?_; exact HK3.out _ _ _; exact Kd.C_below HR.out (HB3.out _ _ _); exact LITS.out _ _; rintro e w2 ⟨b, rfl, HA, hb⟩; have HBf := Lib.hid (below_then (HB3.out _ _ _) (HB3.out _ _ _).size hb); clear hb) | (go_at_call 68; refine stop_intro ?_))
      go_ret
      exact ⟨ret_bool (by rw [HD.out, HA.out]; rfl), HBf.out⟩
    · have ht' : (t == 1) = false := by simpa using ht
      go_enter Try.func46, Try.ntmps46
      go_wp2
      go_ret
      exact ⟨ret_bool (by rw [HD.out, ht']; rfl), HB2.out _ _⟩
  by_cases h21 : o = 21
  · subst h21
    have HLE : Hid (l.length ≤ ([3, 1] : List Int).length) := Lib.hid (by have h := HV.out; simp [valueB, operandsI] at h; simp; omega)
    have HKS : Hid (([3, 1] : List Int).length ≤ 2) := Lib.hid (by decide)
    have LITS : Hid (∀ O O' : Obj, (Kd.int .i64).C (((w.alloc O).alloc O').alloc (.cells #[.int .i64 3, .int .i64 1] 3)) (some ⟨w.heap.size + 1 + 1, 0, none⟩) ([3, 1] : List Int).length [3, 1]) := Lib.hid (fun O O' => LIT.out O O' [3, 1] (by decide))
    have HD : Hid (fitsB d ⟨21, t, im, l⟩ = (t == 1 && areB d.f l [3, 1])) := Lib.hid rfl
    by_cases ht : t = 1
    · subst ht
      go_enter Try.func46, Try.ntmps46
      go_wp2_with (first | (go_at_call 68; with_reducible refine Calls.mono (are_b g d v3 v4 v5 v6 21 1 im B kk l (some ⟨w.heap.size + 1 + 1, 0, none⟩) 2 [3, 1] _ ?_ ?_ hk ?_ HKS.out HLE.out HI.out) ?_; exact HK3.out _ _ _; exact Kd.C_below HR.out (HB3.out _ _ _); exact LITS.out _ _; rintro e w2 ⟨b, rfl, HA, hb⟩; have HBf := Lib.hid (below_then (HB3.out _ _ _) (HB3.out _ _ _).size hb); clear hb) | (go_at_call 68; refine stop_intro ?_))
      go_ret
      exact ⟨ret_bool (by rw [HD.out, HA.out]; rfl), HBf.out⟩
    · have ht' : (t == 1) = false := by simpa using ht
      go_enter Try.func46, Try.ntmps46
      go_wp2
      go_ret
      exact ⟨ret_bool (by rw [HD.out, ht']; rfl), HB2.out _ _⟩
  by_cases h22 : o = 22
  · subst h22
    have HLE : Hid (l.length ≤ ([3, 1, 1] : List Int).length) := Lib.hid (by have h := HV.out; simp [valueB, operandsI] at h; simp; omega)
    have HKS : Hid (([3, 1, 1] : List Int).length ≤ 3) := Lib.hid (by decide)
    have LITS : Hid (∀ O O' : Obj, (Kd.int .i64).C (((w.alloc O).alloc O').alloc (.cells #[.int .i64 3, .int .i64 1, .int .i64 1] 3)) (some ⟨w.heap.size + 1 + 1, 0, none⟩) ([3, 1, 1] : List Int).length [3, 1, 1]) := Lib.hid (fun O O' => LIT.out O O' [3, 1, 1] (by decide))
    have HD : Hid (fitsB d ⟨22, t, im, l⟩ = (t == 0 && areB d.f l [3, 1, 1])) := Lib.hid rfl
    by_cases ht : t = 0
    · subst ht
      go_enter Try.func46, Try.ntmps46
      go_wp2_with (first | (go_at_call 68; with_reducible refine Calls.mono (are_b g d v3 v4 v5 v6 22 0 im B kk l (some ⟨w.heap.size + 1 + 1, 0, none⟩) 3 [3, 1, 1] _ ?_ ?_ hk ?_ HKS.out HLE.out HI.out) ?_; exact HK3.out _ _ _; exact Kd.C_below HR.out (HB3.out _ _ _); exact LITS.out _ _; rintro e w2 ⟨b, rfl, HA, hb⟩; have HBf := Lib.hid (below_then (HB3.out _ _ _) (HB3.out _ _ _).size hb); clear hb) | (go_at_call 68; refine stop_intro ?_))
      go_ret
      exact ⟨ret_bool (by rw [HD.out, HA.out]; rfl), HBf.out⟩
    · have ht' : (t == 0) = false := by simpa using ht
      go_enter Try.func46, Try.ntmps46
      go_wp2
      go_ret
      exact ⟨ret_bool (by rw [HD.out, ht']; rfl), HB2.out _ _⟩
  by_cases h23 : o = 23
  · subst h23
    have HLE : Hid (l.length ≤ ([1] : List Int).length) := Lib.hid (by have h := HV.out; simp [valueB, operandsI] at h; simp; omega)
    have HKS : Hid (([1] : List Int).length ≤ 1) := Lib.hid (by decide)
    have LITS : Hid (∀ O O' : Obj, (Kd.int .i64).C (((w.alloc O).alloc O').alloc (.cells #[.int .i64 1] 3)) (some ⟨w.heap.size + 1 + 1, 0, none⟩) ([1] : List Int).length [1]) := Lib.hid (fun O O' => LIT.out O O' [1] (by decide))
    have HD : Hid (fitsB d ⟨23, t, im, l⟩ = (t == 3 && areB d.f l [1])) := Lib.hid rfl
    by_cases ht : t = 3
    · subst ht
      go_enter Try.func46, Try.ntmps46
      go_wp2_with (first | (go_at_call 68; with_reducible refine Calls.mono (are_b g d v3 v4 v5 v6 23 3 im B kk l (some ⟨w.heap.size + 1 + 1, 0, none⟩) 1 [1] _ ?_ ?_ hk ?_ HKS.out HLE.out HI.out) ?_; exact HK3.out _ _ _; exact Kd.C_below HR.out (HB3.out _ _ _); exact LITS.out _ _; rintro e w2 ⟨b, rfl, HA, hb⟩; have HBf := Lib.hid (below_then (HB3.out _ _ _) (HB3.out _ _ _).size hb); clear hb) | (go_at_call 68; refine stop_intro ?_))
      go_ret
      exact ⟨ret_bool (by rw [HD.out, HA.out]; rfl), HBf.out⟩
    · have ht' : (t == 3) = false := by simpa using ht
      go_enter Try.func46, Try.ntmps46
      go_wp2
      go_ret
      exact ⟨ret_bool (by rw [HD.out, ht']; rfl), HB2.out _ _⟩
  by_cases h27 : o = 27
  · subst h27
    have HLE : Hid (l.length ≤ ([2] : List Int).length) := Lib.hid (by have h := HV.out; simp [valueB, operandsI] at h; simp; omega)
    have HKS : Hid (([2] : List Int).length ≤ 1) := Lib.hid (by decide)
    have LITS : Hid (∀ O O' : Obj, (Kd.int .i64).C (((w.alloc O).alloc O').alloc (.cells #[.int .i64 2] 3)) (some ⟨w.heap.size + 1 + 1, 0, none⟩) ([2] : List Int).length [2]) := Lib.hid (fun O O' => LIT.out O O' [2] (by decide))
    have HD : Hid (fitsB d ⟨27, t, im, l⟩ = (t == 0 && areB d.f l [2])) := Lib.hid rfl
    by_cases ht : t = 0
    · subst ht
      go_enter Try.func46, Try.ntmps46
      go_wp2_with (first | (go_at_call 68; with_reducible refine Calls.mono (are_b g d v3 v4 v5 v6 27 0 im B kk l (some ⟨w.heap.size + 1 + 1, 0, none⟩) 1 [2] _ ?_ ?_ hk ?_ HKS.out HLE.out HI.out) ?_; exact HK3.out _ _ _; exact Kd.C_below HR.out (HB3.out _ _ _); exact LITS.out _ _; rintro e w2 ⟨b, rfl, HA, hb⟩; have HBf := Lib.hid (below_then (HB3.out _ _ _) (HB3.out _ _ _).size hb); clear hb) | (go_at_call 68; refine stop_intro ?_))
      go_ret
      exact ⟨ret_bool (by rw [HD.out, HA.out]; rfl), HBf.out⟩
    · have ht' : (t == 0) = false := by simpa using ht
      go_enter Try.func46, Try.ntmps46
      go_wp2
      go_ret
      exact ⟨ret_bool (by rw [HD.out, ht']; rfl), HB2.out _ _⟩
  by_cases h26 : o = 26
  · subst h26
    have HLE : Hid (l.length ≤ ([1, 1] : List Int).length) := Lib.hid (by have h := HV.out; simp [valueB, operandsI] at h; simp; omega)
    have HKS : Hid (([1, 1] : List Int).length ≤ 2) := Lib.hid (by decide)
    have LITS : Hid (∀ O O' : Obj, (Kd.int .i64).C (((w.alloc O).alloc O').alloc (.cells #[.int .i64 1, .int .i64 1] 3)) (some ⟨w.heap.size + 1 + 1, 0, none⟩) ([1, 1] : List Int).length [1, 1]) := Lib.hid (fun O O' => LIT.out O O' [1, 1] (by decide))
    have HD : Hid (fitsB d ⟨26, t, im, l⟩ = (t == 0 && areB d.f l [1, 1])) := Lib.hid rfl
    by_cases ht : t = 0
    · subst ht
      go_enter Try.func46, Try.ntmps46
      go_wp2_with (first | (go_at_call 68; with_reducible refine Calls.mono (are_b g d v3 v4 v5 v6 26 0 im B kk l (some ⟨w.heap.size + 1 + 1, 0, none⟩) 2 [1, 1] _ ?_ ?_ hk ?_ HKS.out HLE.out HI.out) ?_; exact HK3.out _ _ _; exact Kd.C_below HR.out (HB3.out _ _ _); exact LITS.out _ _; rintro e w2 ⟨b, rfl, HA, hb⟩; have HBf := Lib.hid (below_then (HB3.out _ _ _) (HB3.out _ _ _).size hb); clear hb) | (go_at_call 68; refine stop_intro ?_))
      go_ret
      exact ⟨ret_bool (by rw [HD.out, HA.out]; rfl), HBf.out⟩
    · have ht' : (t == 0) = false := by simpa using ht
      go_enter Try.func46, Try.ntmps46
      go_wp2
      go_ret
      exact ⟨ret_bool (by rw [HD.out, ht']; rfl), HB2.out _ _⟩
  by_cases h28 : o = 28
  · subst h28
    have HLE : Hid (l.length ≤ ([1, 1] : List Int).length) := Lib.hid (by have h := HV.out; simp [valueB, operandsI] at h; simp; omega)
    have HKS : Hid (([1, 1] : List Int).length ≤ 2) := Lib.hid (by decide)
    have LITS : Hid (∀ O O' : Obj, (Kd.int .i64).C (((w.alloc O).alloc O').alloc (.cells #[.int .i64 1, .int .i64 1] 3)) (some ⟨w.heap.size + 1 + 1, 0, none⟩) ([1, 1] : List Int).length [1, 1]) := Lib.hid (fun O O' => LIT.out O O' [1, 1] (by decide))
    have HD : Hid (fitsB d ⟨28, t, im, l⟩ = (t == 0 && areB d.f l [1, 1])) := Lib.hid rfl
    by_cases ht : t = 0
    · subst ht
      go_enter Try.func46, Try.ntmps46
      go_wp2_with (first | (go_at_call 68; with_reducible refine Calls.mono (are_b g d v3 v4 v5 v6 28 0 im B kk l (some ⟨w.heap.size + 1 + 1, 0, none⟩) 2 [1, 1] _ ?_ ?_ hk ?_ HKS.out HLE.out HI.out) ?_; exact HK3.out _ _ _; exact Kd.C_below HR.out (HB3.out _ _ _); exact LITS.out _ _; rintro e w2 ⟨b, rfl, HA, hb⟩; have HBf := Lib.hid (below_then (HB3.out _ _ _) (HB3.out _ _ _).size hb); clear hb) | (go_at_call 68; refine stop_intro ?_))
      go_ret
      exact ⟨ret_bool (by rw [HD.out, HA.out]; rfl), HBf.out⟩
    · have ht' : (t == 0) = false := by simpa using ht
      go_enter Try.func46, Try.ntmps46
      go_wp2
      go_ret
      exact ⟨ret_bool (by rw [HD.out, ht']; rfl), HB2.out _ _⟩
  by_cases h29 : o = 29
  · subst h29
    have HLE : Hid (l.length ≤ ([1, 1] : List Int).length) := Lib.hid (by have h := HV.out; simp [valueB, operandsI] at h; simp; omega)
    have HKS : Hid (([1, 1] : List Int).length ≤ 2) := Lib.hid (by decide)
    have LITS : Hid (∀ O O' : Obj, (Kd.int .i64).C (((w.alloc O).alloc O').alloc (.cells #[.int .i64 1, .int .i64 1] 3)) (some ⟨w.heap.size + 1 + 1, 0, none⟩) ([1, 1] : List Int).length [1, 1]) := Lib.hid (fun O O' => LIT.out O O' [1, 1] (by decide))
    have HD : Hid (fitsB d ⟨29, t, im, l⟩ = (t == 0 && areB d.f l [1, 1])) := Lib.hid rfl
    by_cases ht : t = 0
    · subst ht
      go_enter Try.func46, Try.ntmps46
      go_wp2_with (first | (go_at_call 68; with_reducible refine Calls.mono (are_b g d v3 v4 v5 v6 29 0 im B kk l (some ⟨w.heap.size + 1 + 1, 0, none⟩) 2 [1, 1] _ ?_ ?_ hk ?_ HKS.out HLE.out HI.out) ?_; exact HK3.out _ _ _; exact Kd.C_below HR.out (HB3.out _ _ _); exact LITS.out _ _; rintro e w2 ⟨b, rfl, HA, hb⟩; have HBf := Lib.hid (below_then (HB3.out _ _ _) (HB3.out _ _ _).size hb); clear hb) | (go_at_call 68; refine stop_intro ?_))
      go_ret
      exact ⟨ret_bool (by rw [HD.out, HA.out]; rfl), HBf.out⟩
    · have ht' : (t == 0) = false := by simpa using ht
      go_enter Try.func46, Try.ntmps46
      go_wp2
      go_ret
      exact ⟨ret_bool (by rw [HD.out, ht']; rfl), HB2.out _ _⟩
  by_cases h30 : o = 30
  · subst h30
    have HLE : Hid (l.length ≤ ([1, 1] : List Int).length) := Lib.hid (by have h := HV.out; simp [valueB, operandsI] at h; simp; omega)
    have HKS : Hid (([1, 1] : List Int).length ≤ 2) := Lib.hid (by decide)
    have LITS : Hid (∀ O O' : Obj, (Kd.int .i64).C (((w.alloc O).alloc O').alloc (.cells #[.int .i64 1, .int .i64 1] 3)) (some ⟨w.heap.size + 1 + 1, 0, none⟩) ([1, 1] : List Int).length [1, 1]) := Lib.hid (fun O O' => LIT.out O O' [1, 1] (by decide))
    have HD : Hid (fitsB d ⟨30, t, im, l⟩ = (t == 0 && areB d.f l [1, 1])) := Lib.hid rfl
    by_cases ht : t = 0
    · subst ht
      go_enter Try.func46, Try.ntmps46
      go_wp2_with (first | (go_at_call 68; with_reducible refine Calls.mono (are_b g d v3 v4 v5 v6 30 0 im B kk l (some ⟨w.heap.size + 1 + 1, 0, none⟩) 2 [1, 1] _ ?_ ?_ hk ?_ HKS.out HLE.out HI.out) ?_; exact HK3.out _ _ _; exact Kd.C_below HR.out (HB3.out _ _ _); exact LITS.out _ _; rintro e w2 ⟨b, rfl, HA, hb⟩; have HBf := Lib.hid (below_then (HB3.out _ _ _) (HB3.out _ _ _).size hb); clear hb) | (go_at_call 68; refine stop_intro ?_))
      go_ret
      exact ⟨ret_bool (by rw [HD.out, HA.out]; rfl), HBf.out⟩
    · have ht' : (t == 0) = false := by simpa using ht
      go_enter Try.func46, Try.ntmps46
      go_wp2
      go_ret
      exact ⟨ret_bool (by rw [HD.out, ht']; rfl), HB2.out _ _⟩
  by_cases h33 : o = 33
  · subst h33
    go_enter Try.func46, Try.ntmps46
    go_wp2
    all_goals
      go_ret
      exact ⟨ret_bool (by simp [fitsB, *]), HB2.out _ _⟩
  by_cases h25 : o = 25
  · subst h25
    obtain ⟨him, hle⟩ := val25 HV.out
    have HLE := Lib.hid (And.intro him hle)
    clear him hle
    go_enter Try.func46, Try.ntmps46
    go_wp2_with (first | (go_at_call 69; with_reducible refine Calls.mono (called_b g d v3 v4 v5 v6 25 t im B kk l _ ?_ ?_ hk HLE.out.1 HLE.out.2 HI.out (HF.out im HLE.out.1)) ?_; exact HK2.out _ _; exact Kd.C_below HR.out (HB2.out _ _); rintro e w2 ⟨b, rfl, HA, hb⟩; have HBf := Lib.hid (below_then (HB2.out _ _) (HB2.out _ _).size hb); clear hb) | (go_at_call 69; refine stop_intro ?_))
    go_ret
    exact ⟨ret_bool (by rw [← HA.out]; rfl), HBf.out⟩
  by_cases h32 : o = 32
  · subst h32
    by_cases ht : t = 0
    · subst ht
      go_enter Try.func46, Try.ntmps46
      go_wp2
      go_ret
      exact ⟨ret_bool rfl, HB2.out _ _⟩
    · have ht' : (t != 0) = true := by simpa using ht
      have HALL : Hid (∀ O O' : Obj, O = .cells #[.pointer (some ⟨g, 0, none⟩)] 56 → O' = .cells #[.int .i64 32, .int .i64 t, .int .i64 im, .slice B l.length kk] 42 → Calls Try.prog 42 #[.slice B l.length kk, .func (.func 70) #[] #[.pointer (some ⟨w.heap.size, 0, none⟩), .pointer (some ⟨w.heap.size + 1, 0, none⟩)]] ((w.alloc O).alloc O') fun e w' => ∃ b, e = .returned (.bool b) ∧ Hid (l.all (fun a => typeOf d.f a == t) = b) ∧ Below ((w.alloc O).alloc O').heap.size ((w.alloc O).alloc O') w') := Lib.hid (by
        intro O O' hO hO'
        have b2 : ((w.alloc O).alloc O').heap[w.heap.size]? = some O := blkB (below_alloc (Below.refl _ _) O') (blk_new w O)
        have b3 : ((w.alloc O).alloc O').heap[w.heap.size + 1]? = some O' := by have h := blk_new (w.alloc O) O'; rwa [World.size_alloc] at h
        refine (all_int 70 _ (fun a => typeOf d.f a == t) B kk l _ (Kd.C_below HR.out (HB2.out O O')) hk enter70 (fun x hx W hb => ?_)).mono (fun e w' h => ⟨_, h.1, Lib.hid rfl, h.2⟩)
        have c2 := blkB hb b2
        have c3 := blkB hb b3
        rw [hO] at c2
        rw [hO'] at c3
        exact same_any g w.heap.size (w.heap.size + 1) d v3 v4 v5 v6 t x W ((HK2.out O O').below hb) ((blk_cell c2 0).trans rfl) ((blk_cell c3 1).trans rfl) (List.all_eq_true.1 HI.out x hx))
      go_enter Try.func46, Try.ntmps46
      go_wp2_with (first | (go_at_call 42; with_reducible refine Calls.mono (HALL.out _ _ rfl rfl) ?_; rintro e w2 ⟨b, rfl, HA, hb⟩; have HBf := Lib.hid (below_then (HB2.out _ _) (HB2.out _ _).size hb); clear hb) | (go_at_call 42; refine stop_intro ?_))
      go_ret
      exact ⟨ret_bool (by show _ = (t != 0 && _); rw [ht', HA.out]; rfl), HBf.out⟩
  by_cases h13 : o = 13 ∨ o = 14
  · have hl2 := val13 HV.out h13
    obtain ⟨ad, hA, q0⟩ := int_at (l := l) (i := 0) HR.out (by omega)
    have hx := List.all_eq_true.1 HI.out _ (mem_getD (l := l) (i := 0) 0 (by omega))
    have HD : Hid (fitsB d ⟨o, t, im, l⟩ = ((t == 2 && typeOf d.f (l.getD 0 0) != 0) && areB d.f l [typeOf d.f (l.getD 0 0), typeOf d.f (l.getD 0 0)])) := Lib.hid (by
      unfold fitsB
      dsimp only
      rw [if_neg (by omega), if_pos h13])
    generalize l.getD 0 0 = x at *
    obtain ⟨ad3, B3, d3, hA3, _, t3, _, _, _, _⟩ := val_at HK.out.at_.r3 hx
    obtain ⟨x0, x1⟩ := inB_iff hx
    obtain rfl := hA
    rw [add_zero] at q0
    have q0 := fun O O' => cellO (cellO q0 O) O'
    have t3 := fun O O' => cellO (cellO t3 O) O'
    have y2 := fun O O' => (HK2.out O O').y2
    have x3 := fun O O' => (HK2.out O O').at_.c3
    rw [hA3] at x3
    have hm3 := HK.out.at_.r3.2.1
    clear hx hA3
    generalize typeOf d.f x = ty at *
    have HLE : Hid (l.length ≤ ([ty, ty] : List Int).length) := Lib.hid (by simp; omega)
    have HKS : Hid (([ty, ty] : List Int).length ≤ 2) := Lib.hid (by simp)
    have LITQ : Hid (∀ (O O' : Obj) (n : Nat), (Kd.int .i64).C ((((w.alloc O).alloc O').drewN n).alloc (.cells #[.int .i64 ty, .int .i64 ty] 3)) (some ⟨w.heap.size + 1 + 1, 0, none⟩) ([ty, ty] : List Int).length [ty, ty]) := Lib.hid (fun O O' n => by
      have h : (Kd.int .i64).C ((((w.alloc O).alloc O').drewN n).alloc (.cells #[.int .i64 ty, .int .i64 ty] 3)) (some ⟨((w.alloc O).alloc O').heap.size, 0, none⟩) ([ty, ty] : List Int).length [ty, ty] := lit_reads (((w.alloc O).alloc O').drewN n) [ty, ty] (by simp)
      rw [World.size_alloc, World.size_alloc] at h
      exact h)
    have HB4 : Hid (∀ (O O' : Obj) (n : Nat) (O'' : Obj), Below w.heap.size w ((((w.alloc O).alloc O').drewN n).alloc O'')) := Lib.hid (fun O O' n O'' => below_alloc (pw_below_drewN (HB2.out O O') n) O'')
    have HK4 : Hid (∀ (O O' : Obj) (n : Nat) (O'' : Obj), CkW ((((w.alloc O).alloc O').drewN n).alloc O'') g d v3 v4 v5 v6) := Lib.hid (fun O O' n O'' => ((HK2.out O O').below (pw_below_drewN (Below.refl _ _) n)).below (below_alloc (Below.refl _ _) O''))
    have hl0 : (0 : Int) < (l.length : Int) := by omega
    clear hl2
    rcases h13 with rfl | rfl
    all_goals
      by_cases ht : t = 2
      · subst ht
        by_cases h0 : ty = 0
        · subst h0
          go_enter Try.func46, Try.ntmps46
          go_wp2
          go_quiet (fail)
          go_wp2
          go_ret
          exact ⟨ret_bool (by rw [HD.out]; rfl), pw_below_drewN (HB2.out _ _) _⟩
        · have h0' : (ty != 0) = true := by simpa using h0
          go_enter Try.func46, Try.ntmps46
          go_wp2
          go_quiet (fail)
          go_wp2_with (first | (go_at_call 68; with_reducible refine Calls.mono (are_b g d v3 v4 v5 v6 _ 2 im (some ad) kk l (some ⟨w.heap.size + 1 + 1, 0, none⟩) 2 [ty, ty] _ ?_ ?_ hk ?_ HKS.out HLE.out HI.out) ?_; exact HK4.out _ _ _ _; exact Kd.C_below HR.out (HB4.out _ _ _ _); exact LITQ.out _ _ _; rintro e w2 ⟨b, rfl, HA, hb⟩; have HBf := Lib.hid (below_then (HB4.out _ _ _ _) (HB4.out _ _ _ _).size hb); clear hb) | (go_at_call 68; refine stop_intro ?_))
          go_ret
          exact ⟨ret_bool (by rw [HD.out, HA.out, h0']; rfl), HBf.out⟩
      · have ht' : (t == 2) = false := by simpa using ht
        go_enter Try.func46, Try.ntmps46
        go_wp2
        go_quiet (fail)
        go_wp2
        go_ret
        exact ⟨ret_bool (by rw [HD.out, ht']; rfl), pw_below_drewN (HB2.out _ _) _⟩
  have HD : Hid (fitsB d ⟨o, t, im, l⟩ = (t == 1 && areB d.f l [1, 1])) := Lib.hid (by
    unfold fitsB wantB
    dsimp only
    rw [if_neg h1, if_neg h13, if_neg h25, if_neg h32, if_neg h33, if_neg (by omega), if_neg h19, if_neg h20, if_neg h21, if_neg h22, if_neg h23, if_neg h27, if_neg (by omega)])
  have HLE : Hid (l.length ≤ ([1, 1] : List Int).length) := Lib.hid (val_two HV.out (by omega))
  have HKS : Hid (([1, 1] : List Int).length ≤ 2) := Lib.hid (by decide)
  have LITS : Hid (∀ O O' : Obj, (Kd.int .i64).C (((w.alloc O).alloc O').alloc (.cells #[.int .i64 1, .int .i64 1] 3)) (some ⟨w.heap.size + 1 + 1, 0, none⟩) ([1, 1] : List Int).length [1, 1]) := Lib.hid (fun O O' => LIT.out O O' [1, 1] (by decide))
  have f1 : (o == 1) = false := by simp; omega
  have f13 : (o == 13) = false := by simp; omega
  have f14 : (o == 14) = false := by simp; omega
  have f15 : (o == 15) = false := by simp; omega
  have f16 : (o == 16) = false := by simp; omega
  have f19 : (o == 19) = false := by simp; omega
  have f20 : (o == 20) = false := by simp; omega
  have f21 : (o == 21) = false := by simp; omega
  have f22 : (o == 22) = false := by simp; omega
  have f25 : (o == 25) = false := by simp; omega
  have f23 : (o == 23) = false := by simp; omega
  have f27 : (o == 27) = false := by simp; omega
  have f26 : (o == 26) = false := by simp; omega
  have f28 : (o == 28) = false := by simp; omega
  have f29 : (o == 29) = false := by simp; omega
  have f30 : (o == 30) = false := by simp; omega
  have f32 : (o == 32) = false := by simp; omega
  have f33 : (o == 33) = false := by simp; omega
  clear h1 h13 h15 h16 h19 h20 h21 h22 h23 h25 h26 h27 h28 h29 h30 h32 h33
  by_cases ht : t = 1
  · subst ht
    go_enter Try.func46, Try.ntmps46
    go_wp2_with (first | (go_at_call 68; with_reducible refine Calls.mono (are_b g d v3 v4 v5 v6 o 1 im B kk l (some ⟨w.heap.size + 1 + 1, 0, none⟩) 2 [1, 1] _ ?_ ?_ hk ?_ HKS.out HLE.out HI.out) ?_; exact HK3.out _ _ _; exact Kd.C_below HR.out (HB3.out _ _ _); exact LITS.out _ _; rintro e w2 ⟨b, rfl, HA, hb⟩; have HBf := Lib.hid (below_then (HB3.out _ _ _) (HB3.out _ _ _).size hb); clear hb) | (go_at_call 68; refine stop_intro ?_))
    go_ret
    exact ⟨ret_bool (by rw [HD.out, HA.out]; rfl), HBf.out⟩
  · have ht' : (t == 1) = false := by simpa using ht
    go_enter Try.func46, Try.ntmps46
    go_wp2
    go_ret
    exact ⟨ret_bool (by rw [HD.out, ht']; rfl), HB2.out _ _⟩
end Go.Proofs.Ytgbeliajhccndaa
set_option linter.unusedVariables false
set_option linter.unusedSimpArgs false
namespace Go.Proofs.Ytgbeliajhccndaa
open Go.RowKit Go.Proofs.YtgbeliajhccndaaW.PrintWords Go.Proofs.YtgbeliajhccndaaW.PrintLast Go.Proofs.YtgbeliajhccndaaW.PrintMore PP

theorem fits_b (g : Nat) (d : Ck) (v3 v4 v5 v6 : Value) (v : S42) (B : Option Addr) (kk : Nat) (w : World) (h : CkW w g d v3 v4 v5 v6)
    (hr : (Kd.int .i64).C w B v.f3.length v.f3) (hk : v.f3.length ≤ kk) (hv : valueB d.fs v = true) (hin : v.f3.all (inB d.f.f3.length) = true) (hfun : ∀ i, inB d.fs.length i = true → (rd_T38 d.fs i).f1.all (inB (rd_T38 d.fs i).f3.length) = true) :
    Calls Try.prog 46 #[.pointer (some ⟨g, 0, none⟩), .agg #[.int .i64 v.f0, .int .i64 v.f1, .int .i64 v.f2, .slice B v.f3.length kk]] w fun e w' => ∃ b, e = .returned (.bool b) ∧ Hid (fitsB d v = b) ∧ Below w.heap.size w w' :=
  (fits_any g d v3 v4 v5 v6 v B kk w h hr hk hv hin hfun).mono (fun e w' h => ⟨_, h.1, Lib.hid rfl, h.2⟩)
def wantT (f : S38) (k : Int) : Int := if k = 2 then 2 else if k = 4 then 1 else f.f2
def endB (f : S38) (b : S46) : Bool := if 0 ≤ b.f2.f1 then typeOf f b.f2.f1 == wantT f b.f2.f0 else true
def typesB (d : Ck) : Bool := d.f.f3.all (fitsB d) && d.f.f4.all (endB d.f)
def typesE (d : Ck) : Int := if typesB d = true then 0 else 95
theorem types_v {d : Ck} (h : d.f.f3.all (fitsB d) = false) : typesE d = 95 := by unfold typesE typesB; rw [h]; rfl
theorem types_e {d : Ck} (h : d.f.f4.all (endB d.f) = false) : typesE d = 95 := by unfold typesE typesB; rw [h]; simp
theorem types_ok {d : Ck} (h : d.f.f3.all (fitsB d) = true) (h' : d.f.f4.all (endB d.f) = true) : typesE d = 0 := by unfold typesE typesB; rw [h, h']; rfl
theorem ret_i {a b : Int} (h : a = b) : Ending.returned (.int .i64 a) = .returned (.int .i64 b) := by rw [h]
/-- What formed says of a function. -/
structure Good (d : Ck) : Prop where
  values : ∀ v ∈ d.f.f3, v.f3.all (inB d.f.f3.length) = true ∧ valueB d.fs v = true
  blocks : ∀ b ∈ d.f.f4, blockB d.f b = true
  params : d.f.f1.all (inB d.f.f3.length) = true
  some_ : 0 < d.f.f4.length
  all_ : ∀ i, inB d.fs.length i = true → (rd_T38 d.fs i).f1.all (inB (rd_T38 d.fs i).f3.length) = true
theorem term_in {f : S38} {t : S44} (h : termB f t = true) (h0 : 0 ≤ t.f1) : inB f.f3.length t.f1 = true := by
  unfold termB at h
  repeat' split at h
  all_goals first | (simp only [Bool.and_eq_true, beq_iff_eq] at h; first | exact h.1 | (exfalso; omega)) | cases h
theorem block_term {f : S38} {b : S46} (h : blockB f b = true) : termB f b.f2 = true := by
  unfold blockB at h
  simp only [Bool.and_eq_true] at h
  exact h.1.2
set_option maxHeartbeats 8000000 in
theorem types_any (g : Nat) (d : Ck) (v3 v4 v5 v6 : Value) (w : World) (h : CkW w g d v3 v4 v5 v6) (hG : Good d) :
    Calls Try.prog 25 #[.pointer (some ⟨g, 0, none⟩)] w fun e w' => e = .returned (.int .i64 (typesE d)) ∧ Below w.heap.size w w' := by
  obtain ⟨fs, mn, A, c, p, f, A1, c1, A3, c3, A4, c4⟩ := d
  have hF : FnAt w p f A1 c1 A3 c3 A4 c4 := h.at_
  have hm3 := hF.r3.2.1
  have hm4 := hF.r4.2.1
  have y2 : w.cell? ⟨g, 2, none⟩ = some (.pointer (some p)) := h.y2
  have x3 := hF.c3
  have HK := Lib.hid h
  have HF := Lib.hid hF
  clear hF
  obtain ⟨FT, hFT⟩ : ∃ FT : S42 → Bool, FT = fitsB ⟨fs, mn, A, c, p, f, A1, c1, A3, c3, A4, c4⟩ := ⟨_, rfl⟩
  have TV : Hid (f.f3.all FT = false → typesE ⟨fs, mn, A, c, p, f, A1, c1, A3, c3, A4, c4⟩ = 95) := Lib.hid (fun e => types_v (by rw [← hFT]; exact e))
  have TE : Hid (f.f4.all (endB f) = false → typesE ⟨fs, mn, A, c, p, f, A1, c1, A3, c3, A4, c4⟩ = 95) := Lib.hid (fun e => types_e e)
  have TO : Hid (f.f3.all FT = true → f.f4.all (endB f) = true → typesE ⟨fs, mn, A, c, p, f, A1, c1, A3, c3, A4, c4⟩ = 0) := Lib.hid (fun e e' => types_ok (by rw [← hFT]; exact e) e')
  have HFT := Lib.hid hFT
  clear hFT
  generalize typesE ⟨fs, mn, A, c, p, f, A1, c1, A3, c3, A4, c4⟩ = RR at *
  have HG := Lib.hid hG
  clear h hG
  go_enter Try.func25, Try.ntmps25
  go_wp2
  go_loopg [16] (f.f3.length) (fun k v wr => ∃ i : Nat, i ≤ f.f3.length ∧ v = .int .i64 i ∧ Hid (i + k = f.f3.length) ∧ Hid (f.f3.all (FT) = (f.f3.drop i).all (FT)) ∧ Hid (Below w.heap.size w wr))
  case atStart => exact ⟨0, by omega, rfl, Lib.hid (by omega), Lib.hid (by simp), Lib.hid (Below.refl _ _)⟩
  case round =>
    clear y2 x3
    obtain ⟨i, hi, rfl, HI, HP, HB⟩ := hrel
    have HKr := Lib.hid (HK.out.below HB.out)
    have HFr := Lib.hid (HF.out.below HB.out)
    have y2 : wr.cell? ⟨g, 2, none⟩ = some (.pointer (some p)) := HKr.out.y2
    have x4 := HFr.out.c4
    by_cases hlt : i < f.f3.length
    · obtain ⟨ad, B3, d3, hA, q0, q1, q2, q3, q4, q5⟩ := at_T42 HF.out.r3 (i : Int) (by omega) (by omega)
      rw [Int.toNat_natCast] at q0 q1 q2 q3
      have q0 := cellB HB.out q0
      have q1 := cellB HB.out q1
      have q2 := cellB HB.out q2
      have q3 := cellB HB.out q3
      have HX := Lib.hid q5
      clear q5
      obtain rfl := hA
      have hx0 : rd_T42 f.f3 (i : Int) = f.f3.getD i z42 := by simp [rd_T42]
      have hgood := Lib.hid (HG.out.values _ (mem_getD z42 hlt))
      have HST := Lib.hid (all_stop (p := FT) (d := z42) hlt HP.out)
      have HNX := Lib.hid (all_next (p := FT) (d := z42) hlt HP.out)
      rw [← hx0] at HST HNX hgood
      clear hx0
      generalize rd_T42 f.f3 (i : Int) = x at *
      obtain ⟨O, hO⟩ : ∃ O : Obj, O = .cells #[.int .i64 x.f0, .int .i64 x.f1, .int .i64 x.f2, .slice B3 x.f3.length d3] 42 := ⟨_, rfl⟩
      have HKa := Lib.hid (HKr.out.below (below_alloc (Below.refl _ _) O))
      have HBa := Lib.hid (below_alloc HB.out O)
      rw [hO] at HKa HBa
      clear hO
      go_wp2_with (first | (go_at_call 46; with_reducible refine Calls.mono (fits_b g ⟨fs, mn, A, c, p, f, A1, c1, some ad, c3, A4, c4⟩ v3 v4 v5 v6 x B3 d3 _ HKa.out ?_ q4 hgood.out.2 hgood.out.1 HG.out.all_) ?_; exact Kd.C_below HX.out HBa.out; rintro e w2 ⟨b, rfl, HA2, hb⟩; have HB2 := Lib.hid (below_then HBa.out HBa.out.size hb); clear hb) | (go_at_call 46; refine stop_intro ?_))
      all_goals first
        | (go_ret
           exact ⟨ret_i (TV.out (HST.out (by rw [HFT.out, HA2.out]; simpa using ‹(!b) = true›))).symm, HB2.out⟩)
        | (go_roundg (gk - 1)
           case measure => have := HI.out; omega
           case rel => exact ⟨i + 1, by omega, by go_num, Lib.hid (by have := HI.out; omega), Lib.hid (HNX.out (by rw [HFT.out, HA2.out]; simpa using ‹(!b) = false›)), HB2⟩)
    · have HV : Hid (f.f3.all (FT) = true) := Lib.hid (by rw [HP.out, List.drop_eq_nil_of_le (by omega)]; rfl)
      clear HP HI
      go_wp2
      go_loopg [6, 7, 33] (f.f4.length) (fun k _ _ v wr => ∃ i : Nat, i ≤ f.f4.length ∧ v = .int .i64 i ∧ Hid (i + k = f.f4.length) ∧ Hid (f.f4.all (endB f) = (f.f4.drop i).all (endB f)) ∧ Hid (Below w.heap.size w wr))
      case atStart => exact ⟨0, by omega, rfl, Lib.hid (by omega), Lib.hid (by simp), HB⟩
      case round =>
        clear y2 x4 HKr HFr HB
        obtain ⟨j, hj, rfl, HJ, HQ, HB⟩ := hrel
        have HKr := Lib.hid (HK.out.below HB.out)
        have HFr := Lib.hid (HF.out.below HB.out)
        by_cases hlt2 : j < f.f4.length
        · obtain ⟨ad4, B0, d0, B1, d1, B4, d4, B5, d5, hA4, q0, q1, q2, q3, q4, q5, _⟩ := at_T46 HF.out.r4 (j : Int) (by omega) (by omega)
          rw [Int.toNat_natCast] at q0 q1 q2 q3 q4 q5
          have q0 := cellB HB.out q0
          have q1 := cellB HB.out q1
          have q2 := cellB HB.out q2
          have q3 := cellB HB.out q3
          have q4 := cellB HB.out q4
          have q5 := cellB HB.out q5
          have hx0 : rd_T46 f.f4 (j : Int) = f.f4.getD j z46 := by simp [rd_T46]
          have hterm := Lib.hid (block_term (HG.out.blocks _ (mem_getD z46 hlt2)))
          have HST := Lib.hid (all_stop (p := endB f) (d := z46) hlt2 HQ.out)
          have HNX := Lib.hid (all_next (p := endB f) (d := z46) hlt2 HQ.out)
          rw [← hx0] at HST HNX hterm
          clear hx0
          generalize rd_T46 f.f4 (j : Int) = b at *
          have y2 : ∀ O, (wr.alloc O).cell? ⟨g, 2, none⟩ = some (.pointer (some p)) := fun O => cellO HKr.out.y2 O
          have x2 := fun O => cellO HFr.out.c2 O
          have x3 := fun O => cellO HFr.out.c3 O
          obtain rfl := hA4
          have HBa : Hid (∀ O n, Below w.heap.size w ((wr.alloc O).drewN n)) := Lib.hid (fun O n => pw_below_drewN (below_alloc HB.out O) n)
          obtain ⟨WT, hW⟩ : ∃ WT, WT = wantT f b.f2.f0 := ⟨_, rfl⟩
          have HW3 : (b.f2.f0 = 2 ∧ WT = 2) ∨ (b.f2.f0 = 4 ∧ WT = 1) ∨ ((b.f2.f0 == 2) = false ∧ (b.f2.f0 == 4) = false ∧ WT = f.f2) := by
            rw [hW]; unfold wantT
            by_cases a : b.f2.f0 = 2
            · exact .inl ⟨a, by rw [if_pos a]⟩
            · by_cases a' : b.f2.f0 = 4
              · exact .inr (.inl ⟨a', by rw [if_neg a, if_pos a']⟩)
              · exact .inr (.inr ⟨by simpa using a, by simpa using a', by rw [if_neg a, if_neg a']⟩)
          by_cases h0 : 0 ≤ b.f2.f1
          · have hin := term_in hterm.out h0
            have HE : Hid (endB f b = (typeOf f b.f2.f1 == WT)) := Lib.hid (by unfold endB; rw [if_pos h0, hW])
            obtain ⟨ad3, C3, e3, hA3, _, t3, _, _, _, _⟩ := val_at HFr.out.r3 hin
            have t3 := fun O => cellO t3 O
            obtain ⟨_, x1⟩ := inB_iff hin
            obtain rfl := hA3
            clear hin
            generalize b.f2.f1 = v at *
            generalize typeOf f v = ty at *
            generalize b.f2.f0 = k at *
            by_cases he : ty = WT
            · have HE1 : Hid (endB f b = true) := Lib.hid (by rw [HE.out]; simpa using he)
              clear hW
              subst he
              have he1 : (ty != ty) = false := by simp
              rcases HW3 with ⟨e1, e2⟩ | ⟨e1, e2⟩ | ⟨e1, e2, e3⟩
              · subst e1; subst e2
                go_wp2
                go_quiet (fail)
                go_wp2
                go_roundg (gk - 1)
                case measure => have := HJ.out; omega
                case rel => exact ⟨j + 1, by omega, by go_num, Lib.hid (by have := HJ.out; omega), Lib.hid (HNX.out HE1.out), Lib.hid (HBa.out _ _)⟩
              · subst e1; subst e2
                go_wp2
                go_quiet (fail)
                go_wp2
                go_roundg (gk - 1)
                case measure => have := HJ.out; omega
                case rel => exact ⟨j + 1, by omega, by go_num, Lib.hid (by have := HJ.out; omega), Lib.hid (HNX.out HE1.out), Lib.hid (HBa.out _ _)⟩
              · subst e3
                go_wp2
                go_quiet (fail)
                go_wp2
                go_roundg (gk - 1)
                case measure => have := HJ.out; omega
                case rel => exact ⟨j + 1, by omega, by go_num, Lib.hid (by have := HJ.out; omega), Lib.hid (HNX.out HE1.out), Lib.hid (HBa.out _ _)⟩
            · have he1 : (ty != WT) = true := by simpa using he
              clear hW
              rcases HW3 with ⟨e1, e2⟩ | ⟨e1, e2⟩ | ⟨e1, e2, e3⟩
              · subst e1; subst e2
                go_wp2
                go_quiet (fail)
                go_wp2
                go_ret
                exact ⟨ret_i (TE.out (HST.out (by rw [HE.out]; simpa using he))).symm, HBa.out _ _⟩
              · subst e1; subst e2
                go_wp2
                go_quiet (fail)
                go_wp2
                go_ret
                exact ⟨ret_i (TE.out (HST.out (by rw [HE.out]; simpa using he))).symm, HBa.out _ _⟩
              · subst e3
                go_wp2
                go_quiet (fail)
                go_wp2
                go_ret
                exact ⟨ret_i (TE.out (HST.out (by rw [HE.out]; simpa using he))).symm, HBa.out _ _⟩
          · have HE1 : Hid (endB f b = true) := Lib.hid (by unfold endB; rw [if_neg h0])
            generalize b.f2.f1 = v at *
            generalize b.f2.f0 = k at *
            clear hW
            have h0' : decide (0 ≤ v) = false := decide_eq_false h0
            have h0n : decide (v ≥ 0) = false := decide_eq_false h0
            rcases HW3 with ⟨e1, e2⟩ | ⟨e1, e2⟩ | ⟨e1, e2, e3⟩
            · subst e1; subst e2
              go_wp2
              go_quiet (fail)
              go_wp2
              go_roundg (gk - 1)
              case measure => have := HJ.out; omega
              case rel => exact ⟨j + 1, by omega, by go_num, Lib.hid (by have := HJ.out; omega), Lib.hid (HNX.out HE1.out), Lib.hid (HBa.out _ _)⟩
            · subst e1; subst e2
              go_wp2
              go_quiet (fail)
              go_wp2
              go_roundg (gk - 1)
              case measure => have := HJ.out; omega
              case rel => exact ⟨j + 1, by omega, by go_num, Lib.hid (by have := HJ.out; omega), Lib.hid (HNX.out HE1.out), Lib.hid (HBa.out _ _)⟩
            · subst e3
              go_wp2
              go_quiet (fail)
              go_wp2
              go_roundg (gk - 1)
              case measure => have := HJ.out; omega
              case rel => exact ⟨j + 1, by omega, by go_num, Lib.hid (by have := HJ.out; omega), Lib.hid (HNX.out HE1.out), Lib.hid (HBa.out _ _)⟩
        · go_wp2
          go_ret
          exact ⟨ret_i (TO.out HV.out (by rw [HQ.out, List.drop_eq_nil_of_le (by omega)]; rfl)).symm, HB.out⟩
end Go.Proofs.Ytgbeliajhccndaa
set_option linter.unusedVariables false
set_option linter.unusedSimpArgs false
namespace Go.Proofs.Ytgbeliajhccndaa
open Go.RowKit Go.Proofs.YtgbeliajhccndaaW.PrintWords Go.Proofs.YtgbeliajhccndaaW.PrintLast Go.Proofs.YtgbeliajhccndaaW.PrintMore PP

/-- The header of a slice. -/
structure Hd where
  a : Option Addr
  n : Nat
  c : Nat
def encH (h : Hd) : Value := .slice h.a h.n h.c
theorem encH_one (h : Hd) : (encH h).oneCell' = true := rfl
def kH : Kd Hd := Kd.scalar encH encH_one
abbrev kR : Kd (List Int) := Kd.slice 3 (Kd.int .i64)
/-- headers that lead to these rows -/
def Rows_ (w : World) (hs : List Hd) (ts : List (List Int)) : Prop := hs.length = ts.length ∧ ∀ (i : Nat) (h : Hd) (t : List Int), hs[i]? = some h → ts[i]? = some t → h.n = t.length ∧ h.n ≤ h.c ∧ (Kd.int .i64).C w h.a t.length t
theorem Rows_.below {w W : World} {hs : List Hd} {ts : List (List Int)} (h : Rows_ w hs ts) (hb : Below w.heap.size w W) : Rows_ W hs ts :=
  ⟨h.1, fun i x t h1 h2 => ⟨(h.2 i x t h1 h2).1, (h.2 i x t h1 h2).2.1, Kd.C_below (h.2 i x t h1 h2).2.2 hb⟩⟩
theorem Rows_.nil (w : World) : Rows_ w [] [] := ⟨rfl, fun i x t h => by simp at h⟩
theorem Rows_.snoc {w : World} {hs : List Hd} {ts : List (List Int)} (h : Rows_ w hs ts) {x : Hd} {t : List Int} (h1 : x.n = t.length) (h2 : x.n ≤ x.c) (h3 : (Kd.int .i64).C w x.a t.length t) : Rows_ w (hs ++ [x]) (ts ++ [t]) := by
  refine ⟨by simp [h.1], fun i y u e1 e2 => ?_⟩
  by_cases hi : i < hs.length
  · rw [List.getElem?_append_left hi] at e1
    rw [List.getElem?_append_left (by rw [← h.1]; exact hi)] at e2
    exact h.2 i y u e1 e2
  · rw [List.getElem?_append_right (by omega)] at e1
    rw [List.getElem?_append_right (by rw [← h.1]; omega)] at e2
    have : i - hs.length = 0 := by
      cases hq : i - hs.length with
      | zero => rfl
      | succ n => rw [hq] at e1; simp at e1
    rw [this] at e1
    rw [← h.1, this] at e2
    simp at e1 e2
    subst e1; subst e2
    exact ⟨h1, h2, h3⟩
theorem rows_C {w : World} {A : Option Addr} {hs : List Hd} {ts : List (List Int)} (hC : kH.C w A hs.length hs) (h : Rows_ w hs ts) : kR.C w A ts.length ts := by
  obtain ⟨_, h2, h3⟩ := hC
  refine ⟨rfl, by rw [← h.1]; exact h2, fun hn => ?_⟩
  obtain ⟨ad, e, hc⟩ := h3 (by rw [h.1]; exact hn)
  refine ⟨ad, e, fun j t hj => ?_⟩
  have hjl : j < hs.length := by rw [h.1]; exact (List.getElem?_eq_some_iff.1 hj).1
  obtain ⟨c, hcl, hck, hcc⟩ := hc j _ (List.getElem?_eq_getElem hjl)
  obtain ⟨r1, r2, r3⟩ := h.2 j _ t (List.getElem?_eq_getElem hjl) hj
  have hc1 : c = [encH hs[j]] := hck
  refine ⟨c, hcl, ⟨hs[j].a, hs[j].c, ?_, by rw [← r1]; exact r2, r3⟩, hcc⟩
  rw [hc1, encH, r1]
theorem size_alloc' (w : World) (o : Obj) : (w.alloc o).heap.size = w.heap.size + 1 := by simp
def waysL (f : S38) : List (List Int) := f.f4.map fun b => b.f2.f2
set_option maxHeartbeats 4000000 in
theorem ways_any (g : Nat) (d : Ck) (v3 v4 v5 v6 : Value) (w : World) (h : CkW w g d v3 v4 v5 v6) (hb4 : d.f.f4.length ≤ 2000000) :
    Calls Try.prog 37 #[.pointer (some ⟨g, 0, none⟩)] w fun e w' => ∃ A c, e = .returned (.slice A (waysL d.f).length c) ∧ (waysL d.f).length ≤ c ∧ kR.C w' A (waysL d.f).length (waysL d.f) ∧ Below w.heap.size w w' := by
  obtain ⟨fs, mn, A, c, p, f, A1, c1, A3, c3, A4, c4⟩ := d
  have hF : FnAt w p f A1 c1 A3 c3 A4 c4 := h.at_
  have hb4' : f.f4.length ≤ 2000000 := hb4
  have y2 : w.cell? ⟨g, 2, none⟩ = some (.pointer (some p)) := h.y2
  have x4 := hF.c4
  have HK := Lib.hid h
  have HF := Lib.hid hF
  clear hF hb4 h
  go_enter Try.func37, Try.ntmps37
  go_wp2
  go_loopg [3, 14] (f.f4.length) (fun k u v wr => ∃ (i : Nat) (hs : List Hd), i ≤ f.f4.length ∧ v = .int .i64 i ∧ hs.length = i ∧ Hid (i + k = f.f4.length) ∧ Hid (kH.R 34 wr w.heap.size (fun _ => True) u hs) ∧ Hid (Rows_ w hs ((waysL f).take i)) ∧ Hid (Below w.heap.size w wr))
  case atStart => exact ⟨0, [], by omega, rfl, rfl, Lib.hid (by omega), Lib.hid (Kd.R_nil _ _ _ _ _), Lib.hid (by simpa using Rows_.nil w), Lib.hid (Below.refl _ _)⟩
  case round =>
    clear y2 x4
    obtain ⟨i, hs, hi, rfl, hlen, HI, HR, HW, HB⟩ := hrel
    have HLN := Lib.hid hlen
    clear hlen
    by_cases hlt : i < f.f4.length
    · obtain ⟨ad4, B0, d0, B1, d1, B4, d4, B5, d5, hA4, q0, q1, q2, q3, q4, q5, _, _, _, _, l4, r4, _, _⟩ := at_T46 HF.out.r4 (i : Int) (by omega) (by omega)
      obtain rfl := hA4
      rw [Int.toNat_natCast] at q0 q1 q2 q3 q4 q5
      have q0 := cellB HB.out q0
      have q1 := cellB HB.out q1
      have q2 := cellB HB.out q2
      have q3 := cellB HB.out q3
      have q4 := cellB HB.out q4
      have q5 := cellB HB.out q5
      have HT : Hid ((waysL f).take (i + 1) = (waysL f).take i ++ [(rd_T46 f.f4 (i : Int)).f2.f2]) := Lib.hid (by
        have hl : i < (waysL f).length := by simpa [waysL] using hlt
        rw [List.take_succ_eq_append_getElem hl]; simp [waysL, rd_T46, List.getD_eq_getElem?_getD, hlt])
      have R4 := Lib.hid r4
      clear r4
      generalize rd_T46 f.f4 (i : Int) = b at *
      obtain ⟨O, hO⟩ : ∃ O : Obj, O = .cells #[.slice B0 b.f0.length d0, .slice B1 b.f1.length d1, .int .i64 b.f2.f0, .int .i64 b.f2.f1, .slice B4 b.f2.f2.length d4, .slice B5 b.f3.length d5] 46 := ⟨_, rfl⟩
      have HO := Lib.hid hO
      clear hO
      go_wp2_with (at_builtin; refine stop_intro ?_)
      unfold Stop
      rw [← HO.out]
      refine Kd.R_append kH (w0 := w) w.heap.size rfl (.tmp 18) (.tmp 22) 73 34 (.slice none 0 0) 24 rfl Try.underlying73 info34 rfl (by decide) (by decide) _ hs ⟨B4, b.f2.f2.length, d4⟩ [.slice B4 b.f2.f2.length d4] (fun _ => True) (fun _ => False) rfl (congrArg (fun n => Value.slice (some ⟨n, 0, none⟩) 1 1) (size_alloc' _ _).symm) rfl (fun _ h => h.elim) (fun _ _ => trivial) (Kd.R_alloc HR.out O) (below_alloc HB.out O) ?base ?len ?_
      case base => rw [size_alloc']; have := HB.out.size; omega
      case len => have := HLN.out; omega
      intro v1 w2 hR2 hB2 _ _
      have HR2 := Lib.hid hR2
      have HB2 := Lib.hid hB2
      clear hR2 hB2
      go_wp2
      go_roundg (gk - 1)
      case measure => have := HI.out; omega
      case rel => exact ⟨i + 1, hs ++ [⟨B4, b.f2.f2.length, d4⟩], by omega, by go_num, by have := HLN.out; simp; omega, Lib.hid (by have := HI.out; omega), HR2, Lib.hid (by rw [HT.out]; exact HW.out.snoc rfl l4 R4.out), HB2⟩
    · obtain ⟨A', c', hv, hc', hC⟩ := Kd.R_reads HR.out
      go_wp2
      go_ret
      have hil : i = f.f4.length := by omega
      have hw : (waysL f).take i = waysL f := List.take_of_length_le (by simp [waysL]; omega)
      have HW2 := HW.out
      rw [hw] at HW2
      have hll : hs.length = (waysL f).length := HW2.1
      exact ⟨A', c', by rw [← hll]; exact congrArg Ending.returned hv, by rw [← hll]; exact hc', rows_C hC (HW2.below HB.out), HB.out⟩
end Go.Proofs.Ytgbeliajhccndaa
set_option linter.unusedVariables false
set_option linter.unusedSimpArgs false
namespace Go.Proofs.Ytgbeliajhccndaa
open Go.RowKit Go.Proofs.YtgbeliajhccndaaW.PrintWords Go.Proofs.YtgbeliajhccndaaW.PrintLast Go.Proofs.YtgbeliajhccndaaW.PrintMore PP

theorem bool_at {w : World} {A : Option Addr} {l : List Bool} (h : Kd.bool.C w A l.length l) {i : Nat} (hi : i < l.length) : ∃ ad, A = some ad ∧ w.cell? (ad.add i) = some (.bool (l.getD i false)) := by
  obtain ⟨ad, hA, hc⟩ := Kd.at_bool h (i : Int) (by omega) (by omega)
  have e0 : rdOf false l (i : Int) = l.getD i false := by simp [rdOf]
  rw [Int.toNat_natCast, e0] at hc
  exact ⟨ad, hA, hc⟩
theorem row_at {w : World} {A : Option Addr} {ts : List (List Int)} (h : kR.C w A ts.length ts) {i : Nat} (hi : i < ts.length) : ∃ ad A0 c0, A = some ad ∧ w.cell? (ad.add i) = some (.slice A0 (ts.getD i []).length c0) ∧ (ts.getD i []).length ≤ c0 ∧ (Kd.int .i64).C w A0 (ts.getD i []).length (ts.getD i []) := by
  obtain ⟨ad, A0, c0, e, h1, h2, h3⟩ := at_L2 h (i : Int) (by omega) (by omega)
  have e0 : rd_L2 ts (i : Int) = ts.getD i [] := by simp [rd_L2]
  rw [e0] at h1 h2 h3
  rw [Int.toNat_natCast] at h1
  exact ⟨ad, A0, c0, e, h1, h2, h3⟩
set_option maxHeartbeats 1000000 in
theorem id_any (b : Bool) (w : World) : Calls Try.prog 40 #[.bool b] w fun e w' => e = .returned (.bool b) ∧ w = w' := by
  go_enter Try.func40, Try.ntmps40
  go_wp2
  go_ret
  exact ⟨rfl, rfl⟩
theorem enter40 (args : Array Value) (w : World) : (callFunc 40 args).run Try.prog w = .ok (.enter 40 args) w := run_enter Try.func40 (by kernel_rfl) (by kernel_rfl) args w
set_option maxHeartbeats 1000000 in
theorem all_bool (A : Option Addr) (c : Nat) (l : List Bool) (w : World) (hr : Kd.bool.C w A l.length l) :
    Calls Try.prog 38 #[.slice A l.length c, .func (.func 40) #[] #[]] w fun e w' => e = .returned (.bool (l.all id)) ∧ Below w.heap.size w w' := by
  have HR := Lib.hid hr
  have hl := hr.2.1
  clear hr
  go_enter Try.func38, Try.ntmps38
  go_wp2
  go_loopg [9] (l.length) (fun k v wr => ∃ i : Nat, i ≤ l.length ∧ v = .int .i64 i ∧ Hid (i + k = l.length) ∧ Hid (l.all id = (l.drop i).all id) ∧ Hid (Below w.heap.size w wr))
  case atStart => exact ⟨0, by omega, rfl, Lib.hid (by omega), Lib.hid (by simp), Lib.hid (Below.refl _ _)⟩
  case round =>
    obtain ⟨i, hi, rfl, HI, HP, HB⟩ := hrel
    by_cases hlt : i < l.length
    · obtain ⟨ad, hA, hcell⟩ := bool_at (Kd.C_below HR.out HB.out) hlt
      obtain rfl := hA
      have HST := Lib.hid (all_stop (p := id) (d := false) hlt HP.out)
      have HNX := Lib.hid (all_next (p := id) (d := false) hlt HP.out)
      generalize l.getD i false = x at *
      cases x
      · go_wp2_with (go_at_call 40; refine (id_any _ _).mono ?_; rintro e w' ⟨rfl, rfl⟩)
        go_ret
        exact ⟨ret_bool (by first | exact (HST.out rfl).symm | (have := HST.out; simp at this; simp [this])), HB.out⟩
      · go_wp2_with (go_at_call 40; refine (id_any _ _).mono ?_; rintro e w' ⟨rfl, rfl⟩)
        go_roundg (gk - 1)
        case measure => have := HI.out; omega
        case rel => exact ⟨i + 1, by omega, by go_num, Lib.hid (by have := HI.out; omega), Lib.hid (by first | exact HNX.out rfl | (have := HNX.out; simpa using this)), HB⟩
    · go_wp2
      go_ret
      exact ⟨ret_bool (by rw [HP.out, List.drop_eq_nil_of_le (by omega)]; rfl), HB.out⟩
theorem inB_no {n : Nat} {x : Int} (h : x < 0 ∨ (n : Int) ≤ x) : inB n x = false := by unfold inB; simp; omega
theorem inB_yes {n : Nat} {x : Int} (h : 0 ≤ x ∧ x < (n : Int)) : inB n x = true := by unfold inB; simp; omega
def goodB (ts : List (List Int)) : Bool := ts.all (fun l => l.all (inB ts.length)) && decide (0 < ts.length)
set_option maxHeartbeats 2000000 in
theorem good_any (A : Option Addr) (c : Nat) (ts : List (List Int)) (w : World) (hr : kR.C w A ts.length ts) :
    Calls Try.prog 66 #[.slice A ts.length c] w fun e w' => e = .returned (.bool (goodB ts)) ∧ Below w.heap.size w w' := by
  have HR := Lib.hid hr
  have hm := hr.2.1
  clear hr
  have HG : Hid (goodB ts = (ts.all (fun l => l.all (inB ts.length)) && decide (0 < ts.length))) := Lib.hid rfl
  generalize goodB ts = R at *
  obtain ⟨q, hq⟩ : ∃ q : List Int → Bool, q = fun l => l.all (inB ts.length) := ⟨_, rfl⟩
  rw [← hq] at HG
  have HQ := Lib.hid hq
  clear hq
  go_enter Try.func66, Try.ntmps66
  go_wp2
  go_loopg [4, 9] (ts.length) (fun k _ v wr => ∃ i : Nat, i ≤ ts.length ∧ v = .int .i64 i ∧ Hid (i + k = ts.length) ∧ Hid (ts.all q = (ts.drop i).all q) ∧ Hid (Below w.heap.size w wr))
  case atStart => exact ⟨0, by omega, rfl, Lib.hid (by omega), Lib.hid (by simp), Lib.hid (Below.refl _ _)⟩
  case round =>
    obtain ⟨i, hi, rfl, HI, HP, HB⟩ := hrel
    by_cases hlt : i < ts.length
    · obtain ⟨ad, A0, c0, hA, h1, h2, h3⟩ := row_at (Kd.C_below HR.out HB.out) hlt
      obtain rfl := hA
      have HST := Lib.hid (all_stop (p := q) (d := []) hlt HP.out)
      have HNX := Lib.hid (all_next (p := q) (d := []) hlt HP.out)
      have hml := h3.2.1
      have HRI := Lib.hid h3
      clear h3
      generalize ts.getD i [] = l at *
      have HL : Hid (q l = l.all (inB ts.length)) := Lib.hid (by rw [HQ.out])
      generalize gk = go at *
      obtain ⟨w0, hw0⟩ : ∃ w0, w0 = wr := ⟨_, rfl⟩
      have HW0 := Lib.hid hw0
      clear hw0
      go_wp2
      go_loopg [6, 15] (l.length) (fun k _ v wr => ∃ j : Nat, j ≤ l.length ∧ v = .int .i64 j ∧ Hid (j + k = l.length) ∧ Hid (l.all (inB ts.length) = (l.drop j).all (inB ts.length)) ∧ Hid (Below w0.heap.size w0 wr))
      case atStart => exact ⟨0, by omega, rfl, Lib.hid (by omega), Lib.hid (by simp), Lib.hid (by rw [HW0.out]; exact Below.refl _ _)⟩
      case round =>
        obtain ⟨j, hj, rfl, HJ, HPJ, HBJ⟩ := hrel
        rw [← HW0.out] at HB HRI
        by_cases hlt2 : j < l.length
        · obtain ⟨ad2, hA2, hc2⟩ := int_at (Kd.C_below HRI.out HBJ.out) hlt2
          obtain rfl := hA2
          have HST2 := Lib.hid (all_stop (p := inB ts.length) (d := 0) hlt2 HPJ.out)
          have HNX2 := Lib.hid (all_next (p := inB ts.length) (d := 0) hlt2 HPJ.out)
          generalize l.getD j 0 = x at *
          go_wp2
          all_goals first
            | (go_ret
               refine ⟨ret_bool ?_, below_then HB.out HB.out.size HBJ.out⟩
               rw [HG.out, HST.out (by rw [HL.out]; exact HST2.out (inB_no (by first | assumption | exact .inl ‹x < 0›)))]; rfl)
            | (go_roundg (gk - 1)
               case measure => have := HJ.out; omega
               case rel => exact ⟨j + 1, by omega, by go_num, Lib.hid (by have := HJ.out; omega), Lib.hid (HNX2.out (inB_yes ‹_›)), HBJ⟩)
        · go_wp2
          go_roundg (go - 1)
          case measure => have := HI.out; omega
          case rel => exact ⟨i + 1, by omega, by go_num, Lib.hid (by have := HI.out; omega), Lib.hid (HNX.out (by rw [HL.out, HPJ.out, List.drop_eq_nil_of_le (by omega)]; rfl)), Lib.hid (below_then HB.out HB.out.size HBJ.out)⟩
    · go_wp2
      go_ret
      exact ⟨ret_bool (by rw [HG.out, HP.out, List.drop_eq_nil_of_le (by omega)]; simp), HB.out⟩
end Go.Proofs.Ytgbeliajhccndaa
set_option linter.unusedVariables false
set_option linter.unusedSimpArgs false
namespace Go.Proofs.Ytgbeliajhccndaa
open Go.RowKit Go.WideMaps Go.Maps Go.Proofs.YtgbeliajhccndaaW.PrintWords Go.Proofs.YtgbeliajhccndaaW.PrintLast Go.Proofs.YtgbeliajhccndaaW.PrintMore PP

/-- From place nx on: the first block that was not seen. -/
def scanL (m : Int → Int) : List Int → Nat → Nat × Option Int
  | [], nx => (nx, none)
  | c :: r, nx => if m c = 0 then (nx + 1, some c) else scanL m r (nx + 1)
def lineF (ts : List (List Int)) : Nat → (Int → Int) → List (Int × Nat) → List Int → Option (List Int)
  | 0, _, _, _ => none
  | _ + 1, _, [], ds => some ds
  | k + 1, m, (b, nx) :: st, ds =>
    match scanL m ((ts.getD b.toNat []).drop nx) nx with
    | (nx', some c) => lineF ts k (updI m c 1) ((c, 0) :: (b, nx') :: st) ds
    | (_, none) => lineF ts k m st (ds ++ [b])
def startM : Int → Int := updI (fun _ => 0) 0 1
def lineOf (ts : List (List Int)) (k : Nat) : Option (List Int) := (lineF ts k startM [(0, 0)] []).map List.reverse

def visC (l : List (Int × Nat)) : List Value := l.flatMap fun x => [.int .i64 x.1, .int .i64 (x.2 : Int)]
theorem visC_length (l : List (Int × Nat)) : (visC l).length = l.length * 2 := by
  induction l with
  | nil => rfl
  | cons x r ih => simp only [visC, List.flatMap_cons, List.length_append] at ih ⊢; rw [ih]; simp; omega
theorem visC_append (l r : List (Int × Nat)) : visC (l ++ r) = visC l ++ visC r := by simp [visC]
theorem visC_snoc (l : List (Int × Nat)) (b : Int) (n : Nat) : visC (l ++ [(b, n)]) = visC l ++ [.int .i64 b, .int .i64 (n : Int)] := by rw [visC_append]; rfl
theorem own_cell {w : World} {base g n cap size : Nat} {e : TypeId} {xs : List Value} (h : w.ownsRow base e size (.slice (some ⟨g, 0, none⟩) n cap) n xs) {j : Nat} {u : Value} (hj : xs[j]? = some u) :
    w.cell? ⟨g, j, none⟩ = some u ∧ w.frozen? ⟨g, j, none⟩ = false := by
  obtain ⟨hl, h2⟩ := h
  rcases h2 with ⟨h2, _⟩ | ⟨g', cap', cur, he, hb, hh, hn, hc, hs, ht⟩
  · cases h2
  · have e1 : g = g' := by injection he with he; injection he with he; injection he with he
    subst e1
    refine ⟨?_, blk_frozen hh j⟩
    rw [blk_cell hh j]
    rw [← ht] at hj
    have h3 := (List.getElem?_eq_some_iff.1 hj).1
    rw [List.getElem?_take, if_pos (by simp at h3; omega)] at hj
    simpa using hj
theorem own_form {w : World} {base size n : Nat} {e : TypeId} {v : Value} {xs : List Value} (h : w.ownsRow base e size v n xs) (hn : 0 < n) : ∃ g cap, v = .slice (some ⟨g, 0, none⟩) n cap ∧ n ≤ cap ∧ base ≤ g ∧ g < w.heap.size ∧ n ≤ 9223372036854775807 := by
  rcases h.2 with ⟨rfl, h0⟩ | ⟨g, cap, cur, rfl, hb, hh, hn2, hc, hs, ht⟩
  · omega
  · exact ⟨g, cap, rfl, hn2, hb, blk_lt hh, by unfold maxLen at hc; omega⟩
theorem own_ne_map {w : World} {base size n B nn : Nat} {e : TypeId} {v : Value} {xs : List Value} {m : Int → Int} (h : w.ownsRow base e size v n xs) (hm : MapI w B nn m) : v.ownBlock ≠ some B := by
  intro hk
  obtain ⟨cells, hc⟩ := own_typed h B hk
  obtain ⟨D, ⟨es, ck, hb, _⟩, _⟩ := hm
  rw [hb] at hc
  cases hc
theorem vis_put {w : World} {base g cap : Nat} {l : List (Int × Nat)} {b : Int} {n : Nat} (h : w.ownsRow base 116 2 (.slice (some ⟨g, 0, none⟩) (l.length + 1) cap) (l.length + 1) (visC (l ++ [(b, n)]))) (n' : Nat) :
    (w.setCell ⟨g, l.length * 2 + 1, none⟩ (.int .i64 (n' : Int))).ownsRow base 116 2 (.slice (some ⟨g, 0, none⟩) (l.length + 1) cap) (l.length + 1) (visC (l ++ [(b, n')])) ∧ w.grownBy (w.setCell ⟨g, l.length * 2 + 1, none⟩ (.int .i64 (n' : Int))) (some g) := by
  have hs := h.stored (l.length * 2 + 1) (.int .i64 (n' : Int))
  have he : (visC (l ++ [(b, n)])).set (l.length * 2 + 1) (.int .i64 (n' : Int)) = visC (l ++ [(b, n')]) := by
    rw [visC_snoc, visC_snoc, List.set_append_right _ _ (by rw [visC_length]; omega), visC_length]
    simp
  rwa [he] at hs
theorem vis_top {w : World} {base g cap : Nat} {l : List (Int × Nat)} {b : Int} {n : Nat} (h : w.ownsRow base 116 2 (.slice (some ⟨g, 0, none⟩) (l.length + 1) cap) (l.length + 1) (visC (l ++ [(b, n)]))) :
    w.cell? ⟨g, l.length * 2, none⟩ = some (.int .i64 b) ∧ w.cell? ⟨g, l.length * 2 + 1, none⟩ = some (.int .i64 (n : Int)) ∧ w.frozen? ⟨g, l.length * 2 + 1, none⟩ = false := by
  have h1 := own_cell h (j := l.length * 2) (u := .int .i64 b) (by rw [visC_snoc, List.getElem?_append_right (by rw [visC_length]; omega), visC_length]; simp)
  have h2 := own_cell h (j := l.length * 2 + 1) (u := .int .i64 (n : Int)) (by rw [visC_snoc, List.getElem?_append_right (by rw [visC_length]; omega), visC_length]; simp)
  exact ⟨h1.1, h2.1, h2.2⟩
theorem goodB_row {ts : List (List Int)} (h : goodB ts = true) (b : Int) (hb : inB ts.length b = true) : ∀ x ∈ ts.getD b.toNat [], inB ts.length x = true := by
  unfold goodB at h
  rw [Bool.and_eq_true] at h
  have hb' := inB_iff hb
  have hm : ts.getD b.toNat [] ∈ ts := mem_getD [] (by omega)
  exact fun x hx => List.all_eq_true.1 (List.all_eq_true.1 h.1 _ hm) x hx

theorem below_at {w w1 w2 : World} {B : Nat} (h : Below w.heap.size w w1) (hB : w.heap.size ≤ B) (hg : w1.grownBy w2 (some B)) : Below w.heap.size w w2 :=
  h.grown hg h.size (fun k hk => by cases hk; exact hB)
theorem info116 : (Try.prog.info? 116).map (fun i => (i.zero, i.size, i.bytes)) = some (some (.agg #[.int .i64 0, .int .i64 0]), 2, 16) := by kernel_rfl
theorem MapI.ins {w : World} {B n : Nat} {mi : Int → Int} {o : Oper} {rest : List Oper} {ops : Array Oper} {a : Act} {Q : Exit → Act → World → Prop} (hg : o.guard = none) (x1 x2 x3 : Operand) (hop : o.op = Op.insert 114 x1 x2 x3)
    (h : MapI w B n mi) (hn : n < maxLen) (s : Int) (v : Int) (hm : a.eval x1 = .map (some B)) (hx : a.eval x2 = .int .i64 s) (hv : a.eval x3 = .int .i64 v) (hs : (Lit.int .i64 s).wf = true) (hw : (Lit.int .i64 v).wf = true)
    (hK : ∀ w', MapI w' B (n + 1) (updI mi s v) → w.grownBy w' (some B) → wpList Try.prog ops Q rest (a.put o.dst undef) w') : wpList Try.prog ops Q (o :: rest) a w := by
  obtain ⟨D, h1, h2, h3⟩ := h
  have hkey : keyOf Try.prog 3 (.int .i64 s) = some (.int .i64 s) := keyOf_int_mk Try.underlying3 hs
  have hval : plainElem Try.prog 3 (.int .i64 v) = some ((DataW.lit (.int .i64 v) : DataW Unit), []) := plainElem_int Try.underlying3 hw
  refine wpList_plain hg fun K' hK' => ?_
  obtain ⟨w', hrun, r1, r2⟩ := World.ownsMap.update (t := 114) (e := 3) h1 lawI Try.underlying114 hn hkey hval
  unfold Oper.wp
  simp [execOp, hop, hm, hx, hv, hrun, Result.andThen]
  refine hK' _ _ (hK w' ⟨_, r1, h2.put _ _, fun t ht => ?_⟩ r2)
  unfold updI
  by_cases e : t = s
  · rw [if_pos e, e]; exact atKey_put_same (k := .int .i64 s) h2 trivial _ _
  · rw [if_neg e, atKey_put_other (fun k => e (by injection k))]; exact h3 t ht
set_option maxRecDepth 100000 in
set_option maxHeartbeats 8000000 in
theorem lined_any (A : Option Addr) (c : Nat) (ts : List (List Int)) (K : Nat) (r : List Int) (w : World) (hr : kR.C w A ts.length ts) (hg : goodB ts = true) (hts : ts.length ≤ 2000000) (hK : K ≤ 10000000) (h : lineOf ts K = some r) :
    Calls Try.prog 67 #[.slice A ts.length c] w fun e w' => ∃ v, e = .returned v ∧ w'.ownsRow w.heap.size 3 1 v r.length (nums .i64 r) ∧ Below w.heap.size w w' := by
  have hmm := @run_makeMap Try.prog
  have HR := Lib.hid hr
  have HG := Lib.hid hg
  have HT := Lib.hid hts
  have HK := Lib.hid hK
  clear hr hg hts hK
  go_enter Try.func67, Try.ntmps67
  go_wp2
  go_step3
  go_wp2_with (with_reducible refine MapI.ins rfl _ _ _ rfl (MapI.new w) (by unfold maxLen; omega) 0 1 rfl rfl rfl (wf64 (by omega) (by omega)) (wf64 (by omega) (by omega)) ?_; intro w1 hM1 hg1; have HM1 := Lib.hid hM1; have HB1 : Hid (Below w.heap.size w w1) := Lib.hid ((below_alloc (Below.refl _ _) _).grown hg1 (by simp) (fun k hk => by cases hk; omega)); clear hM1 hg1)
  go_step3
  go_wp2
  clear hmm
  obtain ⟨r0, hr0, hrr⟩ : ∃ r0, lineF ts K startM [(0, 0)] [] = some r0 ∧ r = r0.reverse := by
    unfold lineOf at h
    cases hq : lineF ts K startM [(0, 0)] [] with
    | none => rw [hq] at h; cases h
    | some r0 => rw [hq] at h; exact ⟨r0, rfl, by injection h with h; exact h.symm⟩
  have HH := Lib.hid hr0
  have HRR := Lib.hid hrr
  clear h hr0 hrr
  go_loopg [4, 5, 6, 7] K (fun k u4 u5 _ _ wr => ∃ (nn : Nat) (m : Int → Int) (st : List (Int × Nat)) (ds : List Int), Hid (lineF ts k m st ds = some r0) ∧ Hid (MapI wr w.heap.size nn m) ∧ Hid (wr.ownsRow w.heap.size 116 2 u4 st.length (visC st.reverse)) ∧ Hid (wr.ownsRow w.heap.size 3 1 u5 ds.length (nums .i64 ds)) ∧ Hid (Below w.heap.size w wr) ∧ Hid (nn + k ≤ K + 1 ∧ st.length + k ≤ K + 1 ∧ ds.length + k ≤ K) ∧ Hid (∀ x ∈ st, inB ts.length x.1 = true))
  case atStart =>
    refine ⟨1, startM, [(0, 0)], [], HH, Lib.hid (HM1.out.below (below_alloc (Below.refl _ _) _)), Lib.hid ?_, Lib.hid (own_nil _ _ _ _), Lib.hid (below_alloc HB1.out _), Lib.hid (by simp; omega), Lib.hid ?_⟩
    · have h := World.ownsRow_lit (base := w.heap.size) (e := 116) (size := 2) w1 #[.int .i64 0, .int .i64 0] 1 HB1.out.size (by unfold maxLen; omega) (by simp)
      simpa [visC] using h
    · intro x hx
      simp at hx
      subst hx
      have := HG.out
      unfold goodB at this
      rw [Bool.and_eq_true] at this
      have h2 := this.2
      simp at h2
      simp [inB]; omega
  case round =>
    obtain ⟨nn, m, st, ds, HL, HM, HV, HD, HB, HC, HI⟩ := hrel
    match st, HL, HV, HC, HI with
    | [], HL, HV, HC, HI =>
      have hdr : ds = r0 := by
        have := HL.out
        cases gk with
        | zero => simp [lineF] at this
        | succ k1 => rw [lineF] at this; injection this
      obtain ⟨c4, hu4⟩ : ∃ c4, u4 = .slice c4 0 0 ∨ ∃ g cap, u4 = .slice (some ⟨g, 0, none⟩) 0 cap := by
        rcases HV.out.2 with ⟨h, _⟩ | ⟨g, cap, _, h, _⟩
        · exact ⟨none, .inl h⟩
        · exact ⟨none, .inr ⟨g, cap, h⟩⟩
      have hlen4 : ∃ A4 cp4, u4 = .slice A4 0 cp4 := by
        rcases hu4 with rfl | ⟨g, cap, rfl⟩
        · exact ⟨_, _, rfl⟩
        · exact ⟨_, _, rfl⟩
      obtain ⟨A4, cp4, rfl⟩ := hlen4
      clear hu4
      obtain ⟨A5, cp5, hu5, hn5⟩ : ∃ A5 cp5, u5 = .slice A5 ds.length cp5 ∧ ds.length ≤ 9223372036854775807 := by
        rcases HD.out.2 with ⟨h, h0⟩ | ⟨g, cap, _, h, _, _, h1, h2, _⟩
        · exact ⟨_, _, by rw [h0]; exact h, by omega⟩
        · exact ⟨_, _, h, by unfold maxLen at h2; omega⟩
      obtain rfl := hu5
      have hrl : r.length = ds.length := by rw [HRR.out, ← hdr]; simp
      have HRL := Lib.hid hrl
      have HDR := Lib.hid hdr
      clear hdr hrl HM HL HV HC HI
      go_wp2
      go_loopg [8, 9] (ds.length) (fun k v8 v9 wr => ∃ (i : Nat) (xs : List Int), v8 = .int .i64 i ∧ v9 = .int .i64 ((ds.length : Int) - 1 - i) ∧ i ≤ ds.length ∧ Hid (i + k = ds.length) ∧ Hid (xs.length = ds.length ∧ ∀ q, q < ds.length → xs.getD q 0 = if q < i ∨ ds.length < q + 1 + i then ds.getD (ds.length - 1 - q) 0 else ds.getD q 0) ∧ Hid (wr.ownsRow w.heap.size 3 1 (.slice A5 ds.length cp5) ds.length (nums .i64 xs)) ∧ Hid (Below w.heap.size w wr))
      case atStart => exact ⟨0, ds, rfl, by simp, by omega, Lib.hid (by omega), Lib.hid ⟨rfl, fun q hq => by rw [if_neg (by omega)]⟩, HD, HB⟩
      case round =>
        clear HD HB
        obtain ⟨i, xs, rfl, rfl, hi, HG3, HX, HD, HB⟩ := hrel
        by_cases hlt : (i : Int) < (ds.length : Int) - 1 - i
        · obtain ⟨g, cap, hu, _, hbg, hlg, _⟩ := own_form HD.out (by omega)
          injection hu with e1 e2 e3
          subst e1; subst e3
          have hxl := HX.out.1
          have hD2 := HD.out
          rw [← hxl] at hD2
          obtain ⟨j, hj⟩ : ∃ j : Nat, (ds.length : Int) - 1 - i = (j : Int) := ⟨ds.length - 1 - i, by omega⟩
          have ci := own_at HD.out (i : Int) (by omega) (by omega)
          have cj := own_at HD.out (j : Int) (by omega) (by omega)
          rw [Int.toNat_natCast] at ci cj
          obtain ⟨ci, fi⟩ := ci
          obtain ⟨cj, fj⟩ := cj
          have hij : i < j := by omega
          have hjn : j < ds.length := by omega
          have HJ := Lib.hid hj
          rw [hj]
          clear hj hlt hD2 hxl
          generalize hxi : rd xs (i : Int) = xi at *
          generalize hxj : rd xs (j : Int) = xj at *
          have HXI := Lib.hid hxi
          have HXJ := Lib.hid hxj
          clear hxi hxj
          go_wp2
          go_region
          go_wp2
          go_roundg (gk - 1)
          case measure => have := HG3.out; omega
          case rel =>
            have s1 := own_store HD.out (i : Int) xj
            rw [Int.toNat_natCast] at s1
            have s2 := own_store s1.1 (j : Int) xi
            rw [Int.toNat_natCast] at s2
            refine ⟨i + 1, (xs.set i xj).set j xi, by go_num, congrArg (Value.int .i64) (by have := HJ.out; omega), by omega, Lib.hid (by have := HG3.out; omega), Lib.hid ⟨by simp [HX.out.1], fun q hq => ?_⟩, Lib.hid (pw_own_below s2.1 (below_drew (Below.refl _ _))), Lib.hid (below_drew (below_set (below_set HB.out hbg) hbg))⟩
            have hx := HX.out.2
            have hxl := HX.out.1
            have hjj := HJ.out
            by_cases e1 : q = j
            · subst e1
              rw [if_pos (by omega)]
              have e : ((xs.set i xj).set q xi).getD q 0 = xi := by simp [List.getD_eq_getElem?_getD, hxl, hq]
              rw [e, ← HXI.out]
              have h6 := hx i (by omega)
              rw [if_neg (by omega)] at h6
              have e2 : rd xs (i : Int) = xs.getD i 0 := by simp [YtgbeliajhccndaaW.PrintWords.rd]
              rw [e2, h6]
              congr 1; omega
            · by_cases e2 : q = i
              · subst e2
                rw [if_pos (by omega)]
                have e : ((xs.set q xj).set j xi).getD q 0 = xj := by simp [List.getD_eq_getElem?_getD, hxl, hq, Ne.symm e1]
                rw [e, ← HXJ.out]
                have h6 := hx j (by omega)
                rw [if_neg (by omega)] at h6
                have e2 : YtgbeliajhccndaaW.PrintWords.rd xs (j : Int) = xs.getD j 0 := by simp [YtgbeliajhccndaaW.PrintWords.rd]
                rw [e2, h6]
                congr 1; omega
              · have e : ((xs.set i xj).set j xi).getD q 0 = xs.getD q 0 := by simp [List.getD_eq_getElem?_getD, List.getElem?_set_ne (Ne.symm e1), List.getElem?_set_ne (Ne.symm e2)]
                rw [e, hx q hq]
                by_cases e3 : q < i ∨ ds.length < q + 1 + i
                · rw [if_pos e3, if_pos (by omega)]
                · rw [if_neg e3, if_neg (by omega)]
        · go_wp2
          try rw [Exit.noGoto_ret]
          go_ret
          have hxr : xs = r := by
            rw [HRR.out, ← HDR.out]
            have hx := HX.out.2
            have hxl := HX.out.1
            refine List.ext_getElem? (fun q => ?_)
            by_cases hq : q < ds.length
            · have h6 := hx q hq
              have e1 : xs[q]? = some (xs.getD q 0) := by simp [List.getD_eq_getElem?_getD, hxl, hq]
              have e2 : ds.reverse[q]? = some (ds.getD (ds.length - 1 - q) 0) := by
                rw [List.getElem?_reverse hq]
                have : ds.length - 1 - q < ds.length := by omega
                simp [List.getD_eq_getElem?_getD, this]
              rw [e1, e2, h6]
              by_cases e3 : q < i ∨ ds.length < q + 1 + i
              · rw [if_pos e3]
              · rw [if_neg e3]
                have : ds.length - 1 - q = q := by omega
                rw [this]
            · rw [List.getElem?_eq_none (by omega), List.getElem?_eq_none (by simp; omega)]
          refine ⟨_, rfl, ?_, HB.out⟩
          rw [HRL.out, ← hxr]
          exact HD.out
    | (b, nx) :: st, HL, HV, HC, HI =>
      obtain ⟨l, hl⟩ : ∃ l, l = st.reverse := ⟨_, rfl⟩
      have hll : st.length = l.length := by rw [hl]; simp
      have HV1 := HV.out
      rw [List.reverse_cons, ← hl, List.length_cons, hll] at HV1
      obtain ⟨gv, cap, hu4, hcap, hbv, hlv, hnv⟩ := own_form HV1 (by omega)
      obtain rfl := hu4
      have HLL := Lib.hid hl
      have HLN := Lib.hid hll
      clear hl hll HV
      have HV := Lib.hid HV1
      clear HV1
      have hib : inB ts.length b = true := HI.out (b, nx) (by simp)
      have HIB := Lib.hid hib
      obtain ⟨b0, b1⟩ := inB_iff hib
      obtain ⟨ad, A0, c0, hA, h1, h2, h3⟩ := at_L2 HR.out b b0 b1
      obtain rfl := hA
      have hm0 := HR.out.2.1
      have hmb := h3.2.1
      have hrb : rd_L2 ts b = ts.getD b.toNat [] := rfl
      have HGB := Lib.hid (goodB_row HG.out b hib)
      rw [hrb] at h1 h2 h3 hmb
      clear hib hrb
      have HRB := Lib.hid h3
      have HCB := Lib.hid h2
      clear h3 h2
      obtain ⟨nx2, fo, hS⟩ : ∃ nx2 fo, scanL m ((ts.getD b.toNat []).drop nx) nx = (nx2, fo) := ⟨_, _, rfl⟩
      have HS := Lib.hid hS
      clear hS
      obtain ⟨k1, hk1⟩ : ∃ k1, gk = k1 + 1 := by
        cases gk with
        | zero => have := HL.out; simp [lineF] at this
        | succ k1 => exact ⟨k1, rfl⟩
      have HK1 := Lib.hid hk1
      have HL2 : Hid ((match (nx2, fo) with | (nx', some c) => lineF ts k1 (updI m c 1) ((c, 0) :: (b, nx') :: st) ds | (_, none) => lineF ts k1 m st (ds ++ [b])) = some r0) := Lib.hid (by
        have := HL.out
        rw [hk1, lineF, HS.out] at this
        exact this)
      clear HL hk1
      generalize ts.getD b.toNat [] = bt at *
      generalize gk = go at *
      go_wp2
      go_loopg [4, 7] (bt.length + 1) (fun k v4 _ wr2 => ∃ nx' : Nat, v4 = .slice (some ⟨gv, 0, none⟩) (l.length + 1) cap ∧ Hid (bt.length < nx' + k) ∧ Hid (scanL m (bt.drop nx') nx' = (nx2, fo)) ∧ Hid (wr2.ownsRow w.heap.size 116 2 (.slice (some ⟨gv, 0, none⟩) (l.length + 1) cap) (l.length + 1) (visC (l ++ [(b, nx')]))) ∧ Hid (MapI wr2 w.heap.size nn m) ∧ Hid (wr2.ownsRow w.heap.size 3 1 u5 ds.length (nums .i64 ds)) ∧ Hid (Below w.heap.size w wr2))
      case atStart => exact ⟨nx, rfl, Lib.hid (by omega), HS, HV, HM, HD, HB⟩
      case round =>
        clear HV HM HD HB
        obtain ⟨ny, rfl, HN, HS, HV, HM, HD, HB⟩ := hrel
        have h1 := cellB HB.out h1
        obtain ⟨z0, z1, z2⟩ := vis_top HV.out
        by_cases hlt : ny < bt.length
        · obtain ⟨ad2, hA2, h4⟩ := int_at (Kd.C_below HRB.out HB.out) hlt
          obtain rfl := hA2
          have hcx := HGB.out _ (mem_getD 0 hlt)
          have HS2 : Hid ((if m (bt.getD ny 0) = 0 then (ny + 1, some (bt.getD ny 0)) else scanL m (bt.drop (ny + 1)) (ny + 1)) = (nx2, fo)) := Lib.hid (by
            have := HS.out
            rw [List.drop_eq_getElem_cons hlt, scanL] at this
            simpa [List.getD_eq_getElem?_getD, hlt] using this)
          generalize bt.getD ny 0 = x at *
          obtain ⟨x0, x1⟩ := inB_iff hcx
          have hxw : (Lit.int .i64 x).wf = true := wf64 (by omega) (by have := HT.out; omega)
          have hgne : gv ≠ w.heap.size := fun e => own_ne_map HV.out HM.out (by simp [Value.ownBlock, e])
          have HP : Hid (∀ n, ((wr.drewN n).setCell ⟨gv, l.length * 2 + 1, none⟩ (.int .i64 ((ny + 1 : Nat) : Int))).ownsRow w.heap.size 116 2 (.slice (some ⟨gv, 0, none⟩) (l.length + 1) cap) (l.length + 1) (visC (l ++ [(b, ny + 1)])) ∧ (wr.drewN n).grownBy ((wr.drewN n).setCell ⟨gv, l.length * 2 + 1, none⟩ (.int .i64 ((ny + 1 : Nat) : Int))) (some gv)) := Lib.hid (fun n => vis_put (pw_own_below HV.out (pw_below_drewN (Below.refl _ _) n)) (ny + 1))
          have HMS : Hid (∀ n, MapI ((wr.drewN n).setCell ⟨gv, l.length * 2 + 1, none⟩ (.int .i64 ((ny + 1 : Nat) : Int))) w.heap.size nn m) := Lib.hid (fun n => (HM.out.below (pw_below_drewN (Below.refl _ _) n)).kept (HP.out n).2 (by simpa using Ne.symm hgne))
          have HDS : Hid (∀ n, ((wr.drewN n).setCell ⟨gv, l.length * 2 + 1, none⟩ (.int .i64 ((ny + 1 : Nat) : Int))).ownsRow w.heap.size 3 1 u5 ds.length (nums .i64 ds)) := Lib.hid (fun n => own_other (pw_own_below HD.out (pw_below_drewN (Below.refl _ _) n)) (HP.out n).2 (own_type_ne HD.out HV.out (by decide)))
          have HBS : Hid (∀ n, Below w.heap.size w ((wr.drewN n).setCell ⟨gv, l.length * 2 + 1, none⟩ (.int .i64 ((ny + 1 : Nat) : Int)))) := Lib.hid (fun n => below_set (pw_below_drewN HB.out n) hbv)
          have hLk := fun n => (HMS.out n).look (s := x) hxw
          have ecast : ((ny + 1 : Nat) : Int) = (ny : Int) + 1 := by omega
          simp only [ecast] at HP HMS HDS HBS hLk
          have hLk0 := fun n => hLk n
          have HGN := Lib.hid hgne
          clear hgne ecast hLk
          have HNK : Hid (nn < maxLen) := Lib.hid (by have := HC.out; have := HK.out; unfold maxLen; omega)
          have HW1 : Hid ((Lit.int .i64 1).wf = true) := Lib.hid (wf64 (by omega) (by omega))
          by_cases hz : m x = 0
          · rw [hz] at hLk0
            go_wp2
            go_quiet (fail)
            go_wp2
            go_quiet (fail)
            go_wp2_with (at_mapUpdate; refine stop_intro ?_)
            unfold Stop
            generalize hq : (wr.drewN _).setCell ⟨gv, l.length * 2 + 1, none⟩ (.int .i64 ((ny : Int) + 1)) = w2
            have HP2 := HP.out
            have HV2 : Hid (w2.ownsRow w.heap.size 116 2 (.slice (some ⟨gv, 0, none⟩) (l.length + 1) cap) (l.length + 1) (visC (l ++ [(b, ny + 1)]))) := Lib.hid (by rw [← hq]; exact (HP.out _).1)
            have HM2 : Hid (MapI w2 w.heap.size nn m) := Lib.hid (by rw [← hq]; exact HMS.out _)
            have HD2 : Hid (w2.ownsRow w.heap.size 3 1 u5 ds.length (nums .i64 ds)) := Lib.hid (by rw [← hq]; exact HDS.out _)
            have HB2 : Hid (Below w.heap.size w w2) := Lib.hid (by rw [← hq]; exact HBS.out _)
            clear HP2 hq
            refine MapI.put rfl _ _ _ rfl HM2.out HNK.out x 1 rfl rfl rfl hxw HW1.out ?_
            intro w3 hM3 hg3
            have HM3 := Lib.hid hM3
            have HV3 := Lib.hid (own_other HV2.out hg3 (.inr (own_ne_map HV2.out HM2.out)))
            have HD3 := Lib.hid (own_other HD2.out hg3 (.inr (own_ne_map HD2.out HM2.out)))
            have HB3 := Lib.hid (below_at HB2.out (Nat.le_refl _) hg3)
            clear hM3 hg3
            go_wp2_with (at_builtin; refine stop_intro ?_)
            unfold Stop
            refine print_append_cells (w0 := w) w.heap.size rfl (.tmp 61) (.tmp 64) 117 116 (.agg #[.int .i64 0, .int .i64 0]) 2 16 rfl Try.underlying117 info116 rfl (by decide) (by decide) (.slice (some ⟨gv, 0, none⟩) (l.length + 1) cap) (l.length + 1) (visC (l ++ [(b, ny + 1)])) [.int .i64 x, .int .i64 0] rfl rfl rfl (by simp [Value.oneCell']) HV3.out HB3.out HB3.out.size ?len ?_
            case len => have h5 := HC.out.2.1; have h6 := HLN.out; have h7 := HK.out; rw [List.length_cons] at h5; omega
            intro v1 w4 hV4 hB4 hg4 hat4
            have HV4 := Lib.hid hV4
            have HB4 := Lib.hid hB4
            have HD4 := Lib.hid (own_other HD3.out hg4 (own_type_ne HD3.out HV3.out (by decide)))
            have HM4 := Lib.hid (HM3.out.kept hg4 (fun e => own_ne_map HV3.out HM3.out e.symm))
            clear hV4 hB4 hg4 hat4
            go_wp2
            go_roundg k1
            case measure => have := HK1.out; omega
            case rel =>
              have h2 := HS2.out
              rw [if_pos hz] at h2
              injection h2 with e1 e2
              subst e1; subst e2
              refine ⟨nn + 1, updI m x 1, (x, 0) :: (b, ny + 1) :: st, ds, Lib.hid (by simpa using HL2.out), HM4, Lib.hid ?_, HD4, HB4, Lib.hid ?_, Lib.hid ?_⟩
              · have := HV4.out
                rw [List.reverse_cons, List.reverse_cons, visC_append _ [(x, 0)], ← HLL.out]
                simp only [List.length_cons, HLN.out]
                exact this
              · have := HC.out; have := HK1.out; simp at *; omega
              · intro y hy
                simp at hy
                rcases hy with rfl | rfl | hy
                · exact hcx
                · exact HIB.out
                · exact HI.out y (by simp [hy])
          · have hz1 : (m x == 0) = false := by simpa using hz
            go_wp2
            go_quiet (fail)
            go_wp2
            go_quiet (fail)
            go_wp2
            generalize hq : (wr.drewN _).setCell ⟨gv, l.length * 2 + 1, none⟩ (.int .i64 ((ny : Int) + 1)) = w2
            have HV2 : Hid (w2.ownsRow w.heap.size 116 2 (.slice (some ⟨gv, 0, none⟩) (l.length + 1) cap) (l.length + 1) (visC (l ++ [(b, ny + 1)]))) := Lib.hid (by rw [← hq]; exact (HP.out _).1)
            have HM2 : Hid (MapI w2 w.heap.size nn m) := Lib.hid (by rw [← hq]; exact HMS.out _)
            have HD2 : Hid (w2.ownsRow w.heap.size 3 1 u5 ds.length (nums .i64 ds)) := Lib.hid (by rw [← hq]; exact HDS.out _)
            have HB2 : Hid (Below w.heap.size w w2) := Lib.hid (by rw [← hq]; exact HBS.out _)
            clear hq
            go_roundg (gk - 1)
            case measure => have := HN.out; omega
            case rel => exact ⟨ny + 1, rfl, Lib.hid (by have := HN.out; omega), Lib.hid (by have := HS2.out; rwa [if_neg hz] at this), HV2, HM2, HD2, HB2⟩
        · have hS2 : nx2 = ny ∧ fo = none := by
            have := HS.out
            rw [List.drop_eq_nil_of_le (by omega), scanL] at this
            injection this with e1 e2
            exact ⟨e1.symm, e2.symm⟩
          obtain ⟨rfl, rfl⟩ := hS2
          go_wp2
          go_quiet (fail)
          obtain ⟨i116, hi116, _⟩ := Option.map_eq_some_iff.1 info116
          have hct : ∀ W : World, (Instr.slice 117 (.slice (some ⟨gv, 0, none⟩) (l.length + 1) cap) none (some (.int .i64 (l.length : Int))) none).run Try.prog W = .ok (.slice (some ⟨gv, 0, none⟩) l.length cap) W := by
            intro W
            have h5 := cut_to (P := Try.prog) 117 116 .i64 Try.underlying117 hi116 (some ⟨gv, 0, none⟩) (l.length + 1) cap (l.length : Int) (by omega) (by omega) hcap W
            rwa [Int.toNat_natCast] at h5
          clear hi116
          go_wp2_with (at_builtin; refine stop_intro ?_)
          unfold Stop
          generalize hq : wr.drewN _ = w2
          have HV2 : Hid (w2.ownsRow w.heap.size 116 2 (.slice (some ⟨gv, 0, none⟩) (l.length + 1) cap) (l.length + 1) (visC (l ++ [(b, nx2)]))) := Lib.hid (by rw [← hq]; exact HV.out)
          have hsz : wr.heap.size = w2.heap.size := by rw [← hq]; rfl
          have HM2 : Hid (MapI w2 w.heap.size nn m) := Lib.hid (by rw [← hq]; exact HM.out)
          have HD2 : Hid (w2.ownsRow w.heap.size 3 1 u5 ds.length (nums .i64 ds)) := Lib.hid (by rw [← hq]; exact HD.out)
          have HB2 : Hid (Below w.heap.size w w2) := Lib.hid (by rw [← hq]; exact pw_below_drewN HB.out _)
          clear hq
          refine print_append_num (w0 := w) w.heap.size rfl (.tmp 66) (.tmp 71) 34 3 .i64 8 rfl Try.underlying34 info3 (by decide) u5 ds b rfl (congrArg (fun n => Value.slice (some ⟨n, 0, none⟩) 1 1) hsz) HD2.out HB2.out HB2.out.size ?len ?_
          case len => have h5 := HC.out.2.2; have h7 := HK.out; omega
          intro v1 w4 hD4 hB4 hg4 hat4
          have HD4 := Lib.hid hD4
          have HB4 := Lib.hid hB4
          have HV4 := Lib.hid (own_other HV2.out hg4 (own_type_ne HV2.out HD2.out (by decide)))
          have HM4 := Lib.hid (HM2.out.kept hg4 (fun e => own_ne_map HD2.out HM2.out e.symm))
          clear hD4 hB4 hg4 hat4
          go_wp2
          go_roundg k1
          case measure => have := HK1.out; omega
          case rel =>
            refine ⟨nn, m, st, ds ++ [b], Lib.hid (by simpa using HL2.out), HM4, Lib.hid ?_, HD4, HB4, Lib.hid ?_, Lib.hid (fun y hy => HI.out y (by simp [hy]))⟩
            · have h5 := own_take HV4.out (m := l.length) (by omega)
              rw [visC_append, List.take_append_of_le_length (by rw [visC_length]; omega), List.take_of_length_le (by rw [visC_length]; omega)] at h5
              rw [← HLL.out, HLN.out]
              exact h5
            · have := HC.out; have := HK1.out; simp at *; omega
end Go.Proofs.Ytgbeliajhccndaa
set_option linter.unusedVariables false
set_option linter.unusedSimpArgs false
namespace Go.Proofs.Ytgbeliajhccndaa
open Go.RowKit Go.Proofs.YtgbeliajhccndaaW.PrintWords Go.Proofs.YtgbeliajhccndaaW.PrintLast Go.Proofs.YtgbeliajhccndaaW.PrintMore PP

def setB (l : List Bool) (b : Int) : List Bool := l.set b.toNat true
def reachL (n : Nat) (r : List Int) : List Bool := r.foldl setB (List.replicate n false)
theorem foldl_take {α β : Type} (f : β → α → β) (z : β) (l : List α) (d : α) {i : Nat} (hi : i < l.length) : (l.take (i + 1)).foldl f z = f ((l.take i).foldl f z) (l.getD i d) := by
  rw [List.take_succ_eq_append_getElem hi, List.foldl_append]
  simp [List.getD_eq_getElem?_getD, hi]
theorem setB_length (l : List Bool) (b : Int) : (setB l b).length = l.length := by unfold setB; simp
theorem reach_len (n : Nat) (r : List Int) : (reachL n r).length = n := by
  unfold reachL
  have : ∀ (r : List Int) (l : List Bool), (r.foldl setB l).length = l.length := by
    intro r
    induction r with
    | nil => intro l; rfl
    | cons a r ih => intro l; rw [List.foldl_cons, ih, setB_length]
  rw [this]; simp
theorem Kd.R_slice2 {α : Type} {d : Kd α} {e : Nat} {w : World} {base : Nat} {ok : Nat → Prop} {v : Value} {xs : List α} (h : d.R e w base ok v xs) : ∃ A c, v = .slice A xs.length c ∧ xs.length ≤ c := by
  obtain ⟨A, c, h1, h2, _⟩ := Kd.R_reads h; exact ⟨A, c, h1, h2⟩
set_option maxRecDepth 100000 in
set_option maxHeartbeats 4000000 in
theorem Reach_any (A : Option Addr) (c : Nat) (ts : List (List Int)) (K : Nat) (r : List Int) (w : World) (hr : kR.C w A ts.length ts) (hg : goodB ts = true) (hts : ts.length ≤ 2000000) (hK : K ≤ 10000000) (h : lineOf ts K = some r) (hin : r.all (inB ts.length) = true) :
    Calls Try.prog 39 #[.slice A ts.length c] w fun e w' => ∃ v, e = .returned v ∧ Kd.bool.R 4 w' w.heap.size (fun _ => True) v (reachL ts.length r) ∧ Below w.heap.size w w' := by
  have HR := Lib.hid hr
  have HG := Lib.hid hg
  have HT := Lib.hid hts
  have HK := Lib.hid hK
  have HL := Lib.hid h
  have HI := Lib.hid hin
  clear hr hg hts hK h hin
  have hm : ts.length ≤ 281474976710656 := by have := HT.out; omega
  have H0 : Hid ((0 : Int) ≤ (ts.length : Int) ∧ (ts.length : Int).toNat * 1 ≤ 281474976710656) := Lib.hid (by omega)
  go_enter Try.func39, Try.ntmps39
  go_wp2_with (first | (go_at_call 66; with_reducible refine Calls.mono (good_any A c ts _ HR.out) ?_; rintro e w1 ⟨rfl, hb⟩; rw [HG.out]; have HB1 := Lib.hid hb; clear hb) | (go_at_call 67; refine stop_intro ?_) | ((with_reducible refine gate_dst (N := 11) rfl ?_); refine stop_intro ?_))
  unfold Stop
  refine Kd.R_make Kd.bool (w0 := w) w.heap.size 4 rfl (N := 11) rfl 76 _ _ rfl (ts.length : Int) rfl rfl Try.underlying76 (.bool false) 1 info4 rfl (by decide) (by omega) false (ok := fun _ => True) (okp := fun _ => True) rfl (fun _ hk => hk) trivial H0.out.1 H0.out.2 HB1.out HB1.out.size ?_
  intro v1 w2 ho hb2 _ hnew
  rw [Int.toNat_natCast] at ho
  obtain ⟨A5, c5, hv1, _⟩ := Kd.R_slice2 ho
  obtain rfl := hv1
  have HO := Lib.hid ho
  have HB2 := Lib.hid hb2
  clear ho hb2 hnew
  go_wp2_with (first | (go_at_call 67; with_reducible refine Calls.mono (lined_any A c ts K r _ (Kd.C_below HR.out HB2.out) HG.out HT.out HK.out HL.out) ?_; rintro e w3 ⟨v2, rfl, hR2, hb⟩; obtain ⟨A6, c6, hv2⟩ := own_slice hR2; obtain rfl := hv2; have HB3 := Lib.hid (below_then HB2.out HB2.out.size hb); have HO3 := Lib.hid (Kd.R_below HO.out hb); have HD3 := Lib.hid hR2; have HSZ := Lib.hid hb.size; clear hb hR2) | (go_at_call 67; refine stop_intro ?_))
  go_loopg [5, 15] (r.length) (fun k _ v wr => ∃ i : Nat, i ≤ r.length ∧ v = .int .i64 i ∧ Hid (i + k = r.length) ∧ Hid (Kd.bool.R 4 wr w.heap.size (fun _ => True) (.slice A5 ts.length c5) ((r.take i).foldl setB (List.replicate ts.length false))) ∧ Hid (wr.ownsRow w2.heap.size 3 1 (.slice A6 r.length c6) r.length (nums .i64 r)) ∧ Hid (Below w.heap.size w wr))
  case atStart => exact ⟨0, by omega, rfl, Lib.hid (by omega), by simpa using HO3, HD3, HB3⟩
  case round =>
    clear HO3 HD3 HB3
    obtain ⟨i, hi, rfl, HJ, HO3, HD3, HB3⟩ := hrel
    by_cases hlt : i < r.length
    · obtain ⟨g6, cap6, hu6, _, _, _, hn6⟩ := own_form HD3.out (by omega)
      injection hu6 with e1 _ e3
      subst e1; subst e3
      have q0 := (own_at HD3.out (i : Int) (by omega) (by omega)).1
      rw [Int.toNat_natCast, (by simp [rd] : rd r (i : Int) = r.getD i 0)] at q0
      have hx := List.all_eq_true.1 HI.out _ (mem_getD 0 hlt)
      have HF := Lib.hid (foldl_take setB (List.replicate ts.length false) r 0 hlt)
      generalize r.getD i 0 = x at *
      obtain ⟨x0, x1⟩ := inB_iff hx
      have hlen : ((r.take i).foldl setB (List.replicate ts.length false)).length = ts.length := reach_len ts.length (r.take i)
      obtain ⟨inner, ho⟩ := Kd.R_own HO3.out
      rw [hlen] at ho
      obtain ⟨g5, cap5, hu5, _, hb5, _, _⟩ := own_form ho (by omega)
      injection hu5 with e1 _ e3
      subst e1; subst e3
      have hcx := (Kd.R_cell false (by rw [hlen]; exact HO3.out) x x0 (by rw [hlen]; exact x1))
      obtain ⟨hc1, hc2⟩ := hcx
      have HP := Kd.R_putg HO3.out x true
      have HPR := Lib.hid HP.1
      have HPG := Lib.hid HP.2
      have HDP := Lib.hid (own_other HD3.out HPG.out (own_type_ne HD3.out ho (by decide)))
      clear ho HP
      go_wp2
      go_roundg (gk - 1)
      case measure => have := HJ.out; omega
      case rel => exact ⟨i + 1, by omega, by go_num, Lib.hid (by have := HJ.out; omega), Lib.hid (by rw [HF.out]; exact HPR.out), HDP, Lib.hid (below_set HB3.out hb5)⟩
    · have hil : i = r.length := by omega
      subst hil
      go_wp2
      go_ret
      refine ⟨_, rfl, ?_, HB3.out⟩
      have := HO3.out
      rw [List.take_length] at this
      exact this
def reachE (d : Ck) (r : List Int) : Int := if (reachL (waysL d.f).length r).all id = true then 0 else 92
set_option maxHeartbeats 4000000 in
theorem reach_any (g : Nat) (d : Ck) (v3 v4 v5 v6 : Value) (K : Nat) (r : List Int) (w : World) (h : CkW w g d v3 v4 v5 v6) (hb4 : d.f.f4.length ≤ 2000000) (hg : goodB (waysL d.f) = true) (hK : K ≤ 10000000) (hl : lineOf (waysL d.f) K = some r) (hin : r.all (inB (waysL d.f).length) = true) :
    Calls Try.prog 22 #[.pointer (some ⟨g, 0, none⟩)] w fun e w' => e = .returned (.int .i64 (reachE d r)) ∧ Below w.heap.size w w' := by
  have HK := Lib.hid h
  have H4 := Lib.hid hb4
  have HG := Lib.hid hg
  have HKK := Lib.hid hK
  have HL := Lib.hid hl
  have HI := Lib.hid hin
  have HLW : Hid ((waysL d.f).length ≤ 2000000) := Lib.hid (by unfold waysL; rw [List.length_map]; exact hb4)
  have HE : Hid (reachE d r = if (reachL (waysL d.f).length r).all id = true then 0 else 92) := Lib.hid rfl
  clear h hb4 hg hK hl hin
  generalize reachE d r = R at *
  go_enter Try.func22, Try.ntmps22
  go_wp2_with (first | (go_at_call 37; with_reducible refine Calls.mono (ways_any g d v3 v4 v5 v6 _ HK.out H4.out) ?_; rintro e w1 ⟨A1, c1, rfl, hc1, hC1, hb1⟩; have HC1 := Lib.hid hC1; have HB1 := Lib.hid hb1; clear hC1 hb1) | (go_at_call 39; with_reducible refine Calls.mono (Reach_any A1 c1 _ K r _ HC1.out HG.out HLW.out HKK.out HL.out HI.out) ?_; rintro e w2 ⟨v, rfl, hR, hb2⟩; obtain ⟨A2, c2, rfl, hc2, hC2⟩ := Kd.R_reads hR; have HC2 := Lib.hid hC2; have HB2 := Lib.hid (below_then HB1.out HB1.out.size hb2); clear hR hC2 hb2) | (go_at_call 38; with_reducible refine Calls.mono (all_bool A2 c2 _ _ HC2.out) ?_; rintro e w3 ⟨rfl, hb3⟩; obtain ⟨b, hbq⟩ : ∃ b, (reachL (waysL d.f).length r).all id = b := ⟨_, rfl⟩; rw [hbq]; have HBQ := Lib.hid hbq; have HB3 := Lib.hid (below_then HB2.out HB2.out.size hb3); clear hb3 hbq) | (go_at_call 39; refine stop_intro ?_) | (go_at_call 38; refine stop_intro ?_))
  all_goals
    go_ret
    refine ⟨ret_i ?_, HB3.out⟩
    rw [HE.out, HBQ.out]
    first | (rw [if_pos (by simpa using ‹(!b) = false›)]; done) | (rw [if_neg (by simpa using ‹(!b) = true›)]; done)
end Go.Proofs.Ytgbeliajhccndaa
set_option linter.unusedVariables false
set_option linter.unusedSimpArgs false
namespace Go.Proofs.Ytgbeliajhccndaa
open Go.RowKit Go.Proofs.YtgbeliajhccndaaW.PrintWords Go.Proofs.YtgbeliajhccndaaW.PrintLast Go.Proofs.YtgbeliajhccndaaW.PrintMore PP

def phiB (f : S38) (n : Nat) (v : Int) : Bool := opAt f v == 32 && (((rd_T42 f.f3 v).f3.length : Int) == (n : Int))
def phisBlk (f : S38) (b : S46) : Bool := b.f0.all (phiB f b.f3.length) && b.f1.all (fun v => opAt f v != 32)
def phisE (f : S38) : Int := if (f.f4.getD 0 z46).f0.length = 0 ∧ f.f4.all (phisBlk f) = true then 0 else 93
theorem enter41 (args : Array Value) (w : World) : (callFunc 41 args).run Try.prog w = .ok (.enter 41 args) w := run_enter Try.func41 (by kernel_rfl) (by kernel_rfl) args w
theorem enter43 (args : Array Value) (w : World) : (callFunc 43 args).run Try.prog w = .ok (.enter 43 args) w := run_enter Try.func43 (by kernel_rfl) (by kernel_rfl) args w
set_option maxHeartbeats 2000000 in
theorem phi_any (g g2 g3 : Nat) (d : Ck) (v3 v4 v5 v6 : Value) (a : Int) (B : Option Addr) (n c : Nat) (w : World) (h : CkW w g d v3 v4 v5 v6) (h2 : w.cell? ⟨g2, 0, none⟩ = some (.pointer (some ⟨g, 0, none⟩))) (h3 : w.cell? ⟨g3, 5, none⟩ = some (.slice B n c)) (ha : inB d.f.f3.length a = true) :
    Calls Try.prog 41 #[.int .i64 a, .pointer (some ⟨g2, 0, none⟩), .pointer (some ⟨g3, 0, none⟩)] w fun e w' => e = .returned (.bool (phiB d.f n a)) ∧ Below w.heap.size w w' := by
  obtain ⟨ad3, B3, d3, hA3, t0, _, _, t3, _, _⟩ := val_at h.at_.r3 ha
  have hm3 := h.at_.r3.2.1
  have y2 := h.y2
  have x3 := h.at_.c3
  rw [hA3] at x3
  obtain ⟨a0, a1⟩ := inB_iff ha
  have HD : Hid (phiB d.f n a = (opAt d.f a == 32 && (((rd_T42 d.f.f3 a).f3.length : Int) == (n : Int)))) := Lib.hid rfl
  clear ha h hA3
  generalize opAt d.f a = o at *
  by_cases ho : o = 32
  · subst ho
    go_enter Try.func41, Try.ntmps41
    go_wp2
    go_quiet (fail)
    go_wp2
    go_ret
    exact ⟨ret_bool (by rw [HD.out]; first | rfl | simp), pw_below_drewN (Below.refl _ _) _⟩
  · have ho' : (o == 32) = false := by simpa using ho
    go_enter Try.func41, Try.ntmps41
    go_wp2
    go_quiet (fail)
    go_wp2
    go_ret
    exact ⟨ret_bool (by rw [HD.out, ho']; rfl), pw_below_drewN (Below.refl _ _) _⟩
set_option maxHeartbeats 2000000 in
theorem nophi_any (g g2 : Nat) (d : Ck) (v3 v4 v5 v6 : Value) (a : Int) (w : World) (h : CkW w g d v3 v4 v5 v6) (h2 : w.cell? ⟨g2, 0, none⟩ = some (.pointer (some ⟨g, 0, none⟩))) (ha : inB d.f.f3.length a = true) :
    Calls Try.prog 43 #[.int .i64 a, .pointer (some ⟨g2, 0, none⟩)] w fun e w' => e = .returned (.bool (opAt d.f a != 32)) ∧ Below w.heap.size w w' := by
  obtain ⟨ad3, B3, d3, hA3, t0, _, _, _, _, _⟩ := val_at h.at_.r3 ha
  have hm3 := h.at_.r3.2.1
  have y2 := h.y2
  have x3 := h.at_.c3
  rw [hA3] at x3
  obtain ⟨a0, a1⟩ := inB_iff ha
  clear ha h hA3
  generalize opAt d.f a = o at *
  go_enter Try.func43, Try.ntmps43
  go_wp2
  go_ret
  exact ⟨rfl, Below.refl _ _⟩
theorem all_phis (g g2 g3 : Nat) (d : Ck) (v3 v4 v5 v6 : Value) (b : S46) (B0 B1 B4 B5 : Option Addr) (d0 d1 d4 d5 : Nat) (w : World) (h : CkW w g d v3 v4 v5 v6) (h2 : w.heap[g2]? = some (.cells #[.pointer (some ⟨g, 0, none⟩)] 56 (0, 0)))
    (h3 : w.heap[g3]? = some (.cells #[.slice B0 b.f0.length d0, .slice B1 b.f1.length d1, .int .i64 b.f2.f0, .int .i64 b.f2.f1, .slice B4 b.f2.f2.length d4, .slice B5 b.f3.length d5] 46 (0, 0)))
    (hr : (Kd.int .i64).C w B0 b.f0.length b.f0) (hc : b.f0.length ≤ d0) (hin : b.f0.all (inB d.f.f3.length) = true) :
    Calls Try.prog 42 #[.slice B0 b.f0.length d0, .func (.func 41) #[] #[.pointer (some ⟨g2, 0, none⟩), .pointer (some ⟨g3, 0, none⟩)]] w fun e w' => ∃ t, e = .returned (.bool t) ∧ Hid (b.f0.all (phiB d.f b.f3.length) = t) ∧ Below w.heap.size w w' :=
  by
  refine (all_int 41 _ (phiB d.f b.f3.length) B0 d0 b.f0 w hr hc enter41 (fun x hx W hb => ?_)).mono (fun e w' h => ⟨_, h.1, Lib.hid rfl, h.2⟩)
  exact phi_any g g2 g3 d v3 v4 v5 v6 x B5 b.f3.length d5 W (h.below hb) ((blk_cell (blkB hb h2) 0).trans rfl) ((blk_cell (blkB hb h3) 5).trans rfl) (List.all_eq_true.1 hin x hx)
theorem all_nophi (g g2 : Nat) (d : Ck) (v3 v4 v5 v6 : Value) (B1 : Option Addr) (d1 : Nat) (l : List Int) (w : World) (h : CkW w g d v3 v4 v5 v6) (h2 : w.heap[g2]? = some (.cells #[.pointer (some ⟨g, 0, none⟩)] 56 (0, 0)))
    (hr : (Kd.int .i64).C w B1 l.length l) (hc : l.length ≤ d1) (hin : l.all (inB d.f.f3.length) = true) :
    Calls Try.prog 42 #[.slice B1 l.length d1, .func (.func 43) #[] #[.pointer (some ⟨g2, 0, none⟩)]] w fun e w' => ∃ t, e = .returned (.bool t) ∧ Hid (l.all (fun v => opAt d.f v != 32) = t) ∧ Below w.heap.size w w' :=
  by
  refine (all_int 43 _ (fun v => opAt d.f v != 32) B1 d1 l w hr hc enter43 (fun x hx W hb => ?_)).mono (fun e w' h => ⟨_, h.1, Lib.hid rfl, h.2⟩)
  exact nophi_any g g2 d v3 v4 v5 v6 x W (h.below hb) ((blk_cell (blkB hb h2) 0).trans rfl) (List.all_eq_true.1 hin x hx)
theorem block_phis {f : S38} {b : S46} (h : blockB f b = true) : b.f0.all (inB f.f3.length) = true ∧ b.f1.all (inB f.f3.length) = true ∧ b.f3.all (inB f.f4.length) = true ∧ b.f2.f2.all (inB f.f4.length) = true := by
  unfold blockB at h
  simp only [Bool.and_eq_true] at h
  exact ⟨h.1.1.1.1.1, h.1.1.1.1.2, h.1.1.1.2, h.1.1.2⟩
set_option maxHeartbeats 8000000 in
theorem phis_any (g : Nat) (d : Ck) (v3 v4 v5 v6 : Value) (w : World) (h : CkW w g d v3 v4 v5 v6) (hG : Good d) :
    Calls Try.prog 23 #[.pointer (some ⟨g, 0, none⟩)] w fun e w' => e = .returned (.int .i64 (phisE d.f)) ∧ Below w.heap.size w w' := by
  obtain ⟨fs, mn, A, c, p, f, A1, c1, A3, c3, A4, c4⟩ := d
  have hF : FnAt w p f A1 c1 A3 c3 A4 c4 := h.at_
  have hm4 := hF.r4.2.1
  have hsome : 0 < f.f4.length := hG.some_
  have HK := Lib.hid h
  have HF := Lib.hid hF
  have HG := Lib.hid hG
  obtain ⟨ad0, B00, d00, -, -, -, -, -, -, hA0, z0, -⟩ := at_T46 hF.r4 0 (by omega) (by omega)
  obtain rfl := hA0
  have e00 : rd_T46 f.f4 0 = f.f4.getD 0 z46 := by simp [rd_T46]
  rw [e00, show (0 : Int).toNat * 6 = 0 from rfl, add_zero] at z0
  have z0 := fun O => cellO z0 O
  have y2 : ∀ O, (w.alloc O).cell? ⟨g, 2, none⟩ = some (.pointer (some p)) := fun O => cellO h.y2 O
  have x4 := fun O => cellO hF.c4 O
  have hl0 : (0 : Int) < (f.f4.length : Int) := by omega
  have HE : Hid (phisE f = if (f.f4.getD 0 z46).f0.length = 0 ∧ f.f4.all (phisBlk f) = true then 0 else 93) := Lib.hid rfl
  generalize phisE f = R at *
  clear hF h hG e00
  generalize f.f4.getD 0 z46 = b0 at *
  go_enter Try.func23, Try.ntmps23
  go_wp2
  · go_ret
    refine ⟨ret_i ?_, below_alloc (Below.refl _ _) _⟩
    rw [HE.out, if_neg]
    intro hh
    have h1 : 0 < b0.f0.length := ‹_›
    omega
  have hz0 : b0.f0.length = 0 := by
    have h1 : ¬ 0 < b0.f0.length := ‹_›
    omega
  have HE2 : Hid (R = if f.f4.all (phisBlk f) = true then 0 else 93) := Lib.hid (by
    rw [HE.out]
    by_cases hh : f.f4.all (phisBlk f) = true
    · rw [if_pos ⟨hz0, hh⟩, if_pos hh]
    · rw [if_neg (fun k => hh k.2), if_neg hh])
  have HBK : Hid ((w.alloc (.cells #[.pointer (some ⟨g, 0, none⟩)] 56)).heap[w.heap.size]? = some (.cells #[.pointer (some ⟨g, 0, none⟩)] 56 (0, 0))) := Lib.hid (blk_new w _)
  clear z0 y2 x4 HE
  generalize b0.f0.length = n0 at *
  subst hz0
  go_loopg [4, 5, 26] (f.f4.length) (fun k _ _ v wr => ∃ i : Nat, i ≤ f.f4.length ∧ v = .int .i64 i ∧ Hid (i + k = f.f4.length) ∧ Hid (f.f4.all (phisBlk f) = (f.f4.drop i).all (phisBlk f)) ∧ Hid (Below w.heap.size w wr) ∧ Hid (wr.heap[w.heap.size]? = some (.cells #[.pointer (some ⟨g, 0, none⟩)] 56 (0, 0))))
  case atStart => exact ⟨0, by omega, rfl, Lib.hid (by omega), Lib.hid (by simp), Lib.hid (below_alloc (Below.refl _ _) _), HBK⟩
  case round =>
    clear HBK
    obtain ⟨l, hl, rfl, HL, HR, HBd, HBK⟩ := hrel
    by_cases hlt3 : l < f.f4.length
    · obtain ⟨ad4, B0, d0, B1, d1, B4, d4, B5, d5, hA4, q0, q1, q2, q3, q4, q5, l0, r0, l1, r1, l4, r4, l5, r5⟩ := at_T46 HF.out.r4 (l : Int) (by omega) (by omega)
      injection hA4 with hA4
      subst hA4
      rw [Int.toNat_natCast] at q0 q1 q2 q3 q4 q5
      have q0 := cellB HBd.out q0
      have q1 := cellB HBd.out q1
      have q2 := cellB HBd.out q2
      have q3 := cellB HBd.out q3
      have q4 := cellB HBd.out q4
      have q5 := cellB HBd.out q5
      have R0 := Lib.hid r0
      have R1 := Lib.hid r1
      clear r0 r1 r4 r5
      have hx0 : rd_T46 f.f4 (l : Int) = f.f4.getD l z46 := by simp [rd_T46]
      have HBL := Lib.hid (block_phis (HG.out.blocks _ (mem_getD z46 hlt3)))
      have HST := Lib.hid (all_stop (p := phisBlk f) (d := z46) hlt3 HR.out)
      have HNX := Lib.hid (all_next (p := phisBlk f) (d := z46) hlt3 HR.out)
      rw [← hx0] at HST HNX HBL
      clear hx0
      generalize rd_T46 f.f4 (l : Int) = b at *
      obtain ⟨O, hO⟩ : ∃ O : Obj, O = .cells #[.slice B0 b.f0.length d0, .slice B1 b.f1.length d1, .int .i64 b.f2.f0, .int .i64 b.f2.f1, .slice B4 b.f2.f2.length d4, .slice B5 b.f3.length d5] 46 := ⟨_, rfl⟩
      have HBe := Lib.hid (below_alloc HBd.out O)
      have HK2 := Lib.hid (blkB (below_alloc (Below.refl _ _) O) HBK.out)
      have HK3 := Lib.hid (blk_new wr O)
      rw [hO] at HBe HK2 HK3
      clear hO
      have HKa := Lib.hid (HK.out.below HBe.out)
      go_wp2_with (first | (go_at_call 42; with_reducible refine Calls.mono (all_phis g w.heap.size wr.heap.size ⟨fs, mn, A, c, p, f, A1, c1, A3, c3, some ad0, c4⟩ v3 v4 v5 v6 b B0 B1 B4 B5 d0 d1 d4 d5 _ HKa.out HK2.out HK3.out ?_ l0 HBL.out.1) ?_; exact Kd.C_below R0.out HBe.out; rintro e w2 ⟨t1, rfl, HT1, hb2⟩; have HB2 := Lib.hid (below_then HBe.out HBe.out.size hb2); have HKb := Lib.hid (HKa.out.below hb2); have HK2b := Lib.hid (blkB hb2 HK2.out); have y1 : w2.cell? ⟨wr.heap.size, 1, none⟩ = some (.slice B1 b.f1.length d1) := (blk_cell (blkB hb2 HK3.out) 1).trans rfl; clear hb2) | (go_at_call 42; with_reducible refine Calls.mono (all_nophi g w.heap.size ⟨fs, mn, A, c, p, f, A1, c1, A3, c3, some ad0, c4⟩ v3 v4 v5 v6 B1 d1 b.f1 _ HKb.out HK2b.out ?_ l1 HBL.out.2.1) ?_; exact Kd.C_below R1.out HB2.out; rintro e w3 ⟨t2, rfl, HT2, hb3⟩; have HB3 := Lib.hid (below_then HB2.out HB2.out.size hb3); have HK2c := Lib.hid (blkB hb3 HK2b.out); clear hb3) | (go_at_call 42; refine stop_intro ?_))
      all_goals first
        | (go_ret
           refine ⟨ret_i ?_, by first | exact HB3.out | exact HB2.out⟩
           rw [HE2.out, if_neg (by
             rw [HST.out ?_]
             · decide
             · unfold phisBlk
               first | (rw [HT1.out, (Bool.eq_false_iff.2 ‹¬t1 = true›)]; rfl) | (rw [HT2.out, (by simpa using ‹(!t2) = true› : t2 = false)]; simp))])
        | (go_roundg (gk - 1)
           case measure => have := HL.out; omega
           case rel => exact ⟨l + 1, by omega, by go_num, Lib.hid (by have := HL.out; omega), Lib.hid (HNX.out (by unfold phisBlk; rw [HT1.out, HT2.out, ‹t1 = true›, (by simpa using ‹(!t2) = false› : t2 = true)]; rfl)), HB3, HK2c⟩)
    · go_wp2
      go_ret
      refine ⟨ret_i ?_, HBd.out⟩
      rw [HE2.out, if_pos (by rw [HR.out, List.drop_eq_nil_of_le (by omega)]; rfl)]
end Go.Proofs.Ytgbeliajhccndaa
set_option linter.unusedVariables false
set_option linter.unusedSimpArgs false
namespace Go.Proofs.Ytgbeliajhccndaa
open Go.RowKit Go.Proofs.YtgbeliajhccndaaW.PrintWords Go.Proofs.YtgbeliajhccndaaW.PrintLast Go.Proofs.YtgbeliajhccndaaW.PrintMore PP

/-- A block of ints, known whole. -/
def RowI (w : World) (g : Nat) (l : List Int) : Prop := w.heap[g]? = some (.cells (nums .i64 l).toArray 3 (0, 0))
section
variable {w W : World} {g : Nat} {l : List Int}
theorem RowI.cell (h : RowI w g l) {i : Nat} (hi : i < l.length) : w.cell? ⟨g, i, none⟩ = some (.int .i64 (l.getD i 0)) := by
  rw [blk_cell h i]; simp [nums, List.getD_eq_getElem?_getD, hi]
theorem RowI.frozen (h : RowI w g l) (i : Nat) : w.frozen? ⟨g, i, none⟩ = false := blk_frozen h i
theorem RowI.set (h : RowI w g l) (i : Nat) (x : Int) : RowI (w.setCell ⟨g, i, none⟩ (.int .i64 x)) g (l.set i x) := by
  have := blk_set h i (.int .i64 x)
  unfold RowI
  rw [this]
  simp [nums, List.map_set]
theorem RowI.far (h : RowI w g l) {p : Addr} (hp : g ≠ p.block) (u : Value) : RowI (w.setCell p u) g l := blk_far h hp u
theorem RowI.below (h : RowI w g l) (hb : Below w.heap.size w W) : RowI W g l := blkB hb h
theorem RowI.lt (h : RowI w g l) : g < w.heap.size := blk_lt h
theorem RowI.C (h : RowI w g l) (hl : l.length ≤ 9223372036854775807) : (Kd.int .i64).C w (some ⟨g, 0, none⟩) l.length l := by
  refine ⟨rfl, hl, fun _ => ⟨_, rfl, fun j x hj => ⟨[.int .i64 x], rfl, rfl, fun i u hu => ?_⟩⟩⟩
  have hi : i = 0 := by
    cases i with
    | zero => rfl
    | succ n => simp at hu
  subst hi
  simp at hu
  subst hu
  have hjl := (List.getElem?_eq_some_iff.1 hj).1
  have e : (⟨g, 0, none⟩ : Addr).add (j * 1 + 0) = ⟨g, j, none⟩ := by rw [add_plain]; simp
  show w.cell? ((⟨g, 0, none⟩ : Addr).add (j * 1 + 0)) = _
  rw [e, h.cell hjl]
  simp [List.getD_eq_getElem?_getD, hj]
end
abbrev Tri := List Int × List Int × List Int
def put3 (s : Tri) (v b k : Int) : Tri := (s.1.set v.toNat b, s.2.1.set v.toNat k, s.2.2.set v.toNat (wrap64 (s.2.2.getD v.toNat 0 + 1)))
/-- While once goes: the checker's block, the two cells that put reads, the three rows. -/
structure St (w0 wi wr : World) (g g2 g3 gw ga gt : Nat) (d : Ck) (v3 v4 : Value) (n : Nat) (s : Tri) : Prop where
  below : Below w0.heap.size w0 wr
  keep : ∀ j, j < wi.heap.size → j ≠ g → wr.heap[j]? = wi.heap[j]?
  size : wi.heap.size ≤ wr.heap.size
  bk : wr.heap[g]? = some (.cells #[.slice d.A d.fs.length d.c, .int .i64 d.mn, .pointer (some d.p), v3, v4, .slice (some ⟨gw, 0, none⟩) n n, .slice (some ⟨ga, 0, none⟩) n n] 58 (0, 0))
  b2 : wr.heap[g2]? = some (.cells #[.pointer (some ⟨g, 0, none⟩)] 56 (0, 0))
  b3 : wr.heap[g3]? = some (.cells #[.slice (some ⟨gt, 0, none⟩) n n] 34 (0, 0))
  rw_ : RowI wr gw s.1
  ra : RowI wr ga s.2.1
  rt : RowI wr gt s.2.2
  l1 : s.1.length = n
  l2 : s.2.1.length = n
  l3 : s.2.2.length = n
structure Ap (w0 wi : World) (g g2 g3 gw ga gt : Nat) : Prop where
  a1 : w0.heap.size ≤ g ∧ w0.heap.size ≤ g2 ∧ w0.heap.size ≤ g3 ∧ w0.heap.size ≤ gw ∧ w0.heap.size ≤ ga ∧ w0.heap.size ≤ gt
  a3 : wi.heap.size ≤ gw ∧ wi.heap.size ≤ ga ∧ wi.heap.size ≤ gt
  a2 : gw ≠ ga ∧ gw ≠ gt ∧ ga ≠ gt ∧ g ≠ gw ∧ g ≠ ga ∧ g ≠ gt ∧ g2 ≠ gw ∧ g2 ≠ ga ∧ g2 ≠ gt ∧ g3 ≠ gw ∧ g3 ≠ ga ∧ g3 ≠ gt
section
variable {w0 wi wr W : World} {g g2 g3 gw ga gt : Nat} {d : Ck} {v3 v4 : Value} {n : Nat} {s : Tri}
theorem St.then_ (h : St w0 wi wr g g2 g3 gw ga gt d v3 v4 n s) (hb : Below wr.heap.size wr W) : St w0 wi W g g2 g3 gw ga gt d v3 v4 n s :=
  ⟨below_then h.below h.below.size hb, fun j hj hg => (hb.block j (Nat.lt_of_lt_of_le hj h.size)).trans (h.keep j hj hg), Nat.le_trans h.size hb.size, blkB hb h.bk, blkB hb h.b2, blkB hb h.b3, h.rw_.below hb, h.ra.below hb, h.rt.below hb, h.l1, h.l2, h.l3⟩
theorem St.put (h : St w0 wi wr g g2 g3 gw ga gt d v3 v4 n s) (ha : Ap w0 wi g g2 g3 gw ga gt) (v b k x : Int) (hx : x = wrap64 (s.2.2.getD v.toNat 0 + 1)) :
    St w0 wi (((wr.setCell ⟨gw, v.toNat, none⟩ (.int .i64 b)).setCell ⟨ga, v.toNat, none⟩ (.int .i64 k)).setCell ⟨gt, v.toNat, none⟩ (.int .i64 x)).drew g g2 g3 gw ga gt d v3 v4 n (put3 s v b k) := by
  obtain ⟨p0, p1, p2, p3, p4, p5⟩ := ha.a1
  obtain ⟨n1, n2, n3, n4, n5, n6, n7, n8, n9, n10, n11, n12⟩ := ha.a2
  obtain ⟨i1, i2, i3⟩ := ha.a3
  subst hx
  refine ⟨?_, ?_, ?_, ?_, ?_, ?_, ?_, ?_, ?_, ?_, ?_, ?_⟩
  · exact pw_below_drewN (below_set (below_set (below_set h.below p3) p4) p5) 1
  · intro j hj hg
    show (((wr.setCell ⟨gw, v.toNat, none⟩ (.int .i64 b)).setCell ⟨ga, v.toNat, none⟩ (.int .i64 k)).setCell ⟨gt, v.toNat, none⟩ _).heap[j]? = _
    rw [Below.heap_setCell _ _ _ _ (by show j ≠ gt; omega), Below.heap_setCell _ _ _ _ (by show j ≠ ga; omega), Below.heap_setCell _ _ _ _ (by show j ≠ gw; omega)]
    exact h.keep j hj hg
  · have := h.size; simpa [World.setCell, World.drew] using this
  · exact blk_far (blk_far (blk_far h.bk n4 _) n5 _) n6 _
  · exact blk_far (blk_far (blk_far h.b2 n7 _) n8 _) n9 _
  · exact blk_far (blk_far (blk_far h.b3 n10 _) n11 _) n12 _
  · exact ((h.rw_.set _ _).far n1 _).far n2 _
  · exact ((h.ra.far (Ne.symm n1) _).set _ _).far n3 _
  · exact ((h.rt.far (Ne.symm n2) _).far (Ne.symm n3) _).set _ _
  · simp [put3, h.l1]
  · simp [put3, h.l2]
  · simp [put3, h.l3]
end
set_option maxHeartbeats 4000000 in
theorem put_any (w0 wi : World) (g g2 g3 gw ga gt : Nat) (d : Ck) (v3 v4 : Value) (n : Nat) (s : Tri) (v b k : Int) (w : World) (h : St w0 wi w g g2 g3 gw ga gt d v3 v4 n s) (hap : Ap w0 wi g g2 g3 gw ga gt) (hm : n ≤ 9223372036854775807) (hv : inB n v = true) :
    Calls Try.prog 44 #[.int .i64 v, .int .i64 b, .int .i64 k, .pointer (some ⟨g2, 0, none⟩), .pointer (some ⟨g3, 0, none⟩)] w fun e w' => e = .returned (.tuple #[]) ∧ Hid (St w0 wi w' g g2 g3 gw ga gt d v3 v4 n (put3 s v b k)) ∧ Hid (∀ (j : Nat) (t : TypeId) (cs : Array Value), w.heap[j]? = some (.cells cs t (0, 0)) → j ≠ gw → j ≠ ga → j ≠ gt → w'.heap[j]? = some (.cells cs t (0, 0))) := by
  obtain ⟨x0, x1⟩ := inB_iff hv
  have y4 : w.cell? ⟨g, 5, none⟩ = some (.slice (some ⟨gw, 0, none⟩) n n) := (blk_cell h.bk 5).trans rfl
  have y5 : w.cell? ⟨g, 6, none⟩ = some (.slice (some ⟨ga, 0, none⟩) n n) := (blk_cell h.bk 6).trans rfl
  have h2 : w.cell? ⟨g2, 0, none⟩ = some (.pointer (some ⟨g, 0, none⟩)) := (blk_cell h.b2 0).trans rfl
  have h3 : w.cell? ⟨g3, 0, none⟩ = some (.slice (some ⟨gt, 0, none⟩) n n) := (blk_cell h.b3 0).trans rfl
  have cw := h.rw_.cell (i := v.toNat) (by have := h.l1; omega)
  have ca := h.ra.cell (i := v.toNat) (by have := h.l2; omega)
  have ct := h.rt.cell (i := v.toNat) (by have := h.l3; omega)
  have fw := h.rw_.frozen v.toNat
  have fa := h.ra.frozen v.toNat
  have ft := h.rt.frozen v.toNat
  obtain ⟨n1, n2, n3, n4, n5, n6, n7, n8, n9, n10, n11, n12⟩ := hap.a2
  have HE := Lib.hid (fun x hx => h.put hap v b k x hx)
  clear h hap hv
  generalize s.2.2.getD v.toNat 0 = tt at *
  generalize s.2.1.getD v.toNat 0 = ta at *
  generalize s.1.getD v.toNat 0 = tw at *
  go_enter Try.func44, Try.ntmps44
  go_wp2
  go_region
  go_wp2
  go_end0
  exact ⟨rfl, Lib.hid (HE.out _ rfl), Lib.hid (fun j t cs hj h1 h2 h3 => blk_far (blk_far (blk_far hj h1 _) h2 _) h3 _)⟩
end Go.Proofs.Ytgbeliajhccndaa
