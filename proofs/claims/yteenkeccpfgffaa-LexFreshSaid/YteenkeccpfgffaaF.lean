/- Walks of lex.reader.name (chapter 2). -/
import Derived.Test.YteenkeccpfgffaaE
import Derived.Deep.RegionWith
set_option linter.unusedVariables false
set_option linter.unusedSimpArgs false
namespace Go.Proofs.Yteenkeccpfgffaa
open Go.RowKit Go.Proofs.YteenkeccpfgffaaW.PrintWords Go.Proofs.YteenkeccpfgffaaW.PrintLast Go.Proofs.YteenkeccpfgffaaW.PrintMore

structure Tok where
  kind : Int
  at_ : Int
  value : Int
  name : ByteArray
def Tok.cells (x : Tok) : Array Value := #[.int .i64 x.kind, .int .i64 x.at_, .int .i64 x.value, .string x.name]
def Tok.nil : Tok := ⟨0, 0, 0, ⟨#[]⟩⟩

theorem RS.alloc {w : World} {B : Nat} {A : Option Addr} {n c p : Nat} (h : RS w B A n c p) (o : Obj) : RS (w.alloc o) B A n c p := h.grown (World.grownBy_alloc w o none) (by simp)
theorem reads_alloc {w : World} {A : Option Addr} {n : Nat} {k : IntKind} {xs : List Int} (h : ReadsInt w k A n xs) (o : Obj) : ReadsInt (w.alloc o) k A n xs :=
  h.below ((Below.refl _ _).alloc (Nat.le_refl _) o)
theorem length_tw {α : Type} (f : α → Bool) (l : List α) : (l.takeWhile f).length ≤ l.length := (List.takeWhile_prefix f).length_le
theorem strL_le (b : Bool) (l : List Int) : strL b l ≤ l.length := length_tw _ _

theorem reads_heap {w w' : World} {A : Option Addr} {n : Nat} {k : IntKind} {xs : List Int} (h : ReadsInt w k A n xs) (he : w'.heap = w.heap) : ReadsInt w' k A n xs := by
  refine ⟨h.1, h.2.1, fun hn => ?_⟩
  obtain ⟨ad, e, hc⟩ := h.2.2 hn
  refine ⟨ad, e, fun j hj => ?_⟩
  have := hc j hj
  unfold World.cell? at this ⊢
  rw [he]
  exact this
/-- 'r.rest()[:m]' and 'string(..)' of it. -/
theorem cut_string {A A2 : Option Addr} {n c p m : Nat} {l : List Int} {w : World} (h : ∀ (w : World) (k : IntKind) (xs : List Int), n ≤ c → ReadsInt w k A n xs → ReadsInt w k A2 (n - p) (xs.drop p)) (hnc : n ≤ c) (hr : ReadsInt w .u8 A n l) (hm : m ≤ n - p) :
    (∀ W : World, (Instr.slice 22 (.slice A2 (n - p) (c - p)) none (some (.int .i64 (m : Int))) none).run Try.prog W = .ok (.slice A2 m (c - p)) W) ∧
    (∀ k, (convert 22 9 (.slice A2 m (c - p))).run Try.prog (w.drewN k) = .ok (.string (strOfNums ((l.drop p).take m))) (w.drewN k)) ∧
    (∀ o k, (convert 22 9 (.slice A2 m (c - p))).run Try.prog ((w.drewN k).alloc o) = .ok (.string (strOfNums ((l.drop p).take m))) ((w.drewN k).alloc o)) ∧
    (∀ o k j, (convert 22 9 (.slice A2 m (c - p))).run Try.prog (((w.drewN k).alloc o).drewN j) = .ok (.string (strOfNums ((l.drop p).take m))) (((w.drewN k).alloc o).drewN j)) := by
  obtain ⟨i5, hi5, hs5⟩ := info5s
  have h2 := h w .u8 l hnc hr
  have hlen : (l.drop p).length = n - p := h2.1
  have htl : ((l.drop p).take m).length = m := by rw [List.length_take]; omega
  refine ⟨fun W => ?_, fun k => ?_, fun o k => ?_, fun o k j => ?_⟩
  · have h3 := (print_take_int (P := Try.prog) (k := .u8) 22 5 Try.underlying22 hi5 hs5 A2 (c - p) (l.drop p) (m : Int) (by omega) (by omega) (by omega)).1 W
    rw [Int.toNat_natCast, htl, hlen] at h3
    exact h3
  · exact string_of_reads Try.underlying22 Try.underlying5 Try.underlying9 ((reads_heap h2 rfl).take_ m hm)
  · exact string_of_reads Try.underlying22 Try.underlying5 Try.underlying9 ((reads_heap (w' := (w.drewN k).alloc o) (reads_alloc h2 o) rfl).take_ m hm)
  · exact string_of_reads Try.underlying22 Try.underlying5 Try.underlying9 ((reads_heap (w' := ((w.drewN k).alloc o).drewN j) (reads_alloc h2 o) rfl).take_ m hm)

theorem bcell {W w1 : World} (hb : Below W.heap.size W w1) : (∀ b o, b < W.heap.size → w1.cell? ⟨b, o, none⟩ = W.cell? ⟨b, o, none⟩) ∧ (∀ b o, b < W.heap.size → w1.frozen? ⟨b, o, none⟩ = W.frozen? ⟨b, o, none⟩) :=
  ⟨fun b o h => hb.cell (p := ⟨b, o, none⟩) h, fun b o h => hb.frozen (p := ⟨b, o, none⟩) h⟩
theorem alloc_drewN (V : World) (k : Nat) (o : Obj) : (V.drewN k).alloc o = (V.alloc o).drewN k := rfl
theorem setCell_drewN (V : World) (k : Nat) (a : Addr) (v : Value) : (V.drewN k).setCell a v = (V.setCell a v).drewN k := rfl
theorem setCell_last (V : World) (g j : Nat) (cs : Array Value) (t : TypeId) (fr : Nat × Nat) (v : Value) (hg : g = V.heap.size) :
    (V.alloc (.cells cs t fr)).setCell ⟨g, j, none⟩ v = V.alloc (.cells (cs.setIfInBounds j v) t fr) := by
  subst hg
  rw [setCell_eq_setRow (V.alloc (.cells cs t fr)) V.heap.size j cs t fr v (heap_alloc_new V _), setRow_alloc]
theorem RS.far {w : World} {B : Nat} {A : Option Addr} {n c p : Nat} (h : RS w B A n c p) {g : Nat} (hne : B ≠ g) (j : Nat) (v : Value) : RS (w.setCell ⟨g, j, none⟩ v) B A n c p :=
  (Below.heap_setCell w ⟨g, j, none⟩ v B hne).trans h
theorem RS.below {w w' : World} {B : Nat} {A : Option Addr} {n c p : Nat} (h : RS w B A n c p) (hb : Below w.heap.size w w') : RS w' B A n c p := (hb.block B h.lt).trans h
theorem grown_new {w w1 : World} {row : Option Nat} (h : w.grownBy w1 row) {g : Nat} (hg : w.heap.size ≤ g) (j : Nat) (v : Value) : w.grownBy (w1.setCell ⟨g, j, none⟩ v) row :=
  ⟨h.os, h.tape, h.output, by have := h.size; simpa [World.setCell] using this, fun k hk hne => (Below.heap_setCell w1 ⟨g, j, none⟩ v k (show k ≠ g by omega)).trans (h.block k hk hne)⟩
theorem grown_row {w w1 : World} {B : Nat} (h : w.grownBy w1 (some B)) (j : Nat) (v : Value) : w.grownBy (w1.setCell ⟨B, j, none⟩ v) (some B) := h.trans (grown_set w1 B j v)
theorem grown_alloc {w w1 : World} {row : Option Nat} (h : w.grownBy w1 row) (o : Obj) : w.grownBy (w1.alloc o) row := h.trans (World.grownBy_alloc w1 o row)
theorem grown_draw {w w1 : World} {row : Option Nat} (h : w.grownBy w1 row) (k : Nat) : w.grownBy (w1.drewN k) row := h.trans (grown_drewN w1 k row)
theorem grown_below {w w1 w2 : World} {row : Option Nat} (h : w.grownBy w1 row) (hb : Below w1.heap.size w1 w2) : w.grownBy w2 row := h.trans (grown_of_below hb row)
theorem grown_refl (w : World) (row : Option Nat) : w.grownBy w row := World.grownBy.refl w row
theorem four_set (V : World) (g : Nat) (x0 x1 x2 x3 a b c d : Value) (t : TypeId) (fr : Nat × Nat) (hg : g = V.heap.size) :
    ((((V.alloc (.cells #[x0, x1, x2, x3] t fr)).setCell ⟨g, 0, none⟩ a).setCell ⟨g, 1, none⟩ b).setCell ⟨g, 2, none⟩ c).setCell ⟨g, 3, none⟩ d = V.alloc (.cells #[a, b, c, d] t fr) := by
  rw [setCell_last _ _ _ _ _ _ _ hg, setCell_last _ _ _ _ _ _ _ hg, setCell_last _ _ _ _ _ _ _ hg, setCell_last _ _ _ _ _ _ _ hg]
  rfl
theorem size_alloc' (w : World) (o : Obj) : (w.alloc o).heap.size = w.heap.size + 1 := by simp
theorem four_row {W : World} {g : Nat} {z0 z1 z2 z3 a b c d : Value} {t : TypeId} (h : W.heap[g]? = some (.cells #[z0, z1, z2, z3] t (0, 0))) :
    ((((W.setCell ⟨g, 0, none⟩ a).setCell ⟨g, 1, none⟩ b).setCell ⟨g, 2, none⟩ c).setCell ⟨g, 3, none⟩ d).heap[g]? = some (.cells #[a, b, c, d] t (0, 0)) :=
  heap_setCell_same _ _ _ _ _ _ (heap_setCell_same _ _ _ _ _ _ (heap_setCell_same _ _ _ _ _ _ (heap_setCell_same _ _ _ _ _ _ h)))
theorem far_row {W : World} {g g' j : Nat} {v : Value} {o : Obj} (h : W.heap[g]? = some o) (hne : g ≠ g') : (W.setCell ⟨g', j, none⟩ v).heap[g]? = some o := (Below.heap_setCell W ⟨g', j, none⟩ v g hne).trans h
/-- The results of name, number, sign, token: a Token that lies in memory, and the error. -/
theorem tok_results {fn : Func} {tmps : Array Value} {W : World} {g : Nat} {err : Int} {cs : Array Value} (hr : fn.results = #[.cell 2 33, .tmp 3]) (hp : tmps.getD 2 undef = .pointer (some ⟨g, 0, none⟩)) (he : tmps.getD 3 undef = .int .i64 err)
    (hg : W.heap[g]? = some (.cells cs 33 (0, 0))) (hc : cs.size = 4) : (results fn tmps).run Try.prog W = .ok (.tuple #[.agg cs, .int .i64 err]) W := by
  have h := results_list (P := Try.prog) (tmps := tmps) (w := W) (fn := fn) (rs := [.cell 2 33, .tmp 3]) (vs := [.agg cs, tmps.getD 3 undef]) hr (by simp) (.cell g 33 cs (0, 0) _ hp hg Try.underlying33 rfl (by rw [hc]; kernel_rfl) (.tmp .nil))
  rw [he] at h
  exact h
theorem new_row {w w' : World} {o o2 : Obj} {k : Nat} (hb : Below (((w.alloc o).alloc o2).drewN k).heap.size (((w.alloc o).alloc o2).drewN k) w') : w'.heap[w.heap.size]? = some o ∧ w'.heap[w.heap.size + 1]? = some o2 := by
  constructor
  · rw [hb.block w.heap.size (by simp; omega), World.heap_drewN]
    exact heap_alloc2_old w o o2
  · rw [hb.block (w.heap.size + 1) (by simp), World.heap_drewN]
    exact heap_alloc2_new w o o2
def nameTok (p : Int) (s : ByteArray) : Tok := if wordK s = 1 then ⟨1, p, 0, s⟩ else ⟨wordK s, p, 0, ⟨#[]⟩⟩

set_option maxHeartbeats 2000000 in
theorem name_yes (B : Nat) (A : Option Addr) (n c p m : Nat) (l : List Int) (w : World) (hs : RS w B A n c p) (hp : p ≤ n) (hnc : n ≤ c) (hr : ReadsInt w .u8 A n l) (hf : Far A B n) (hb : byteRange l) (hm : strL true (l.drop p) = m) (h64 : m ≤ 64) :
    Calls Try.prog 33 #[.pointer (some ⟨B, 0, none⟩)] w fun e w' => e = .returned (.tuple #[.agg (nameTok p (strOfNums ((l.drop p).take m))).cells, .int .i64 0]) ∧ RS w' B A n c (p + m) ∧ w.grownBy w' (some B) := by
  have hn := hr.2.1
  have hstr : m ≤ n - p := by
    have h := strL_le true (l.drop p)
    rw [List.length_drop, hr.1, hm] at h
    exact h
  have HM := Lib.hid hm
  have HR := Lib.hid hr
  have HS := Lib.hid hs
  have HB := Lib.hid hb
  have HF := Lib.hid hf
  have hlen := Lib.hid hr.1
  have hlt := hs.lt
  have c0 := hs.c0
  have c1 := hs.c1
  have f1 := hs.f1
  clear hr hs hb hf hm
  go_enter Try.func33, Try.ntmps33
  go_wp2_with (go_at_call 42; refine (stretch_any B true A n c p l _ (by exact (HS.out.alloc _).c0) (by exact (HS.out.alloc _).c1) hp hnc (by exact reads_alloc HR.out _) (by exact HB.out)).mono ?_; rintro e w' ⟨rfl, nq, rfl⟩; rw [HM.out])
  obtain ⟨Z, hz⟩ : ∃ Z, Z = (Obj.cells #[Value.int IntKind.i64 0, Value.int IntKind.i64 0, Value.int IntKind.i64 0, Value.string ⟨#[]⟩] 33) := ⟨_, rfl⟩
  rw [← hz]
  have HZ := Lib.hid hz
  clear hz
  go_cut [5] (fun t w1 => t = .pointer (some ⟨w.heap.size + 1, 0, none⟩) ∧ ∃ k, w1 = ((w.alloc Z).alloc (.cells #[.int .i64 1, .int .i64 (p : Int), .int .i64 0, .string (strOfNums ((l.drop p).take m))] 33)).drewN k)
  case first =>
    go_region_with (go_at_call 32; refine (rest_any B A n c p _ (by first | exact (HS.out.alloc _).c0 | exact (((HS.out.alloc _).drewN _).alloc _).c0) (by first | exact (HS.out.alloc _).c1 | exact (((HS.out.alloc _).drewN _).alloc _).c1) hp).mono ?_; rintro e w' ⟨A2, rfl, HRD2, nq2, rfl⟩; obtain ⟨hsl, hcv, hcw, hcu⟩ := cut_string HRD2 hnc (reads_alloc HR.out Z) hstr; clear HRD2)
    all_goals
      go_wp2_with fail
      go_meet
      refine ⟨rfl, ?_⟩
      simp only [alloc_drewN, setCell_drewN, World.drewN_drewN]
      try rw [four_set _ _ _ _ _ _ _ _ _ _ _ _ (size_alloc' w Z).symm]
      exact ⟨_, rfl⟩
  case rest =>
    obtain ⟨rfl, k, rfl⟩ := hcut
    generalize hss : strOfNums ((l.drop p).take m) = s at *
    have HSS := Lib.hid hss
    clear hss
    have hz := HZ.out
    subst hz
    by_cases hk : wordK s = 1
    · have hlt2 : B < w.heap.size + 1 + 1 := by omega
      have hne1 : B ≠ w.heap.size := by omega
      have hne2 : B ≠ w.heap.size + 1 := by omega
      have hk1 : (wordK s == 1) = true := by simp [hk]
      have hk2 : (wordK s != 1) = false := by simp [hk]
      have HK := Lib.hid hk
      clear hk
      go_wp2_with (go_at_call 43; refine (word_any s _).mono ?_; rintro e w' ⟨rfl, hb1⟩; obtain ⟨hc1, hf1⟩ := bcell hb1)
      rw [HSS.out]
      obtain ⟨r1, r2⟩ := new_row hb1
      have e : (nameTok p s).cells = #[.int .i64 1, .int .i64 (p : Int), .int .i64 0, .string s] := by unfold nameTok; rw [if_pos HK.out]; rfl
      refine bodyPost_ret (v := .tuple #[.agg (nameTok p s).cells, .int .i64 0]) (by rw [e]; exact tok_results Try.results33 rfl rfl (four_row (far_row r1 (Ne.symm hne1))) rfl) rfl ⟨rfl, ?_, ?_⟩
      · exact ((((((((HS.out.alloc _).alloc _).drewN k).below hb1).set (p + m)).far hne1 _ _).far hne1 _ _).far hne1 _ _).far hne1 _ _
      · exact grown_new (grown_new (grown_new (grown_new (grown_row (grown_below (grown_draw (grown_alloc (grown_alloc (grown_refl w (some B)) _) _) k) hb1) _ _) (Nat.le_refl _) _ _) (Nat.le_refl _) _ _) (Nat.le_refl _) _ _) (Nat.le_refl _) _ _
    · have hlt2 : B < w.heap.size + 1 + 1 := by omega
      have hne1 : B ≠ w.heap.size := by omega
      have hne2 : B ≠ w.heap.size + 1 := by omega
      have hk1 : (wordK s == 1) = false := by simp [hk]
      have hk2 : (wordK s != 1) = true := by simp [hk]
      have HK := Lib.hid hk
      clear hk
      go_wp2_with (go_at_call 43; refine (word_any s _).mono ?_; rintro e w' ⟨rfl, hb1⟩; obtain ⟨hc1, hf1⟩ := bcell hb1)
      rw [HSS.out]
      obtain ⟨r1, r2⟩ := new_row hb1
      have e : (nameTok p s).cells = #[.int .i64 (wordK s), .int .i64 (p : Int), .int .i64 0, .string ⟨#[]⟩] := by unfold nameTok; rw [if_neg HK.out]; rfl
      have hg := grown_below (grown_draw (grown_alloc (grown_alloc (grown_refl w (some B)) _) _) k) hb1
      have hw : w.heap.size ≤ w.heap.size + 1 := Nat.le_succ _
      have hne3 : w.heap.size ≠ w.heap.size + 1 := by omega
      refine bodyPost_ret (v := .tuple #[.agg (nameTok p s).cells, .int .i64 0]) (by rw [e]; exact tok_results Try.results33 rfl rfl (four_row (far_row (far_row (far_row (far_row (far_row r1 hne3) hne3) hne3) hne3) (Ne.symm hne1))) rfl) rfl ⟨rfl, ?_, ?_⟩
      · exact ((((((((((((HS.out.alloc _).alloc _).drewN k).below hb1).far hne2 _ _).far hne2 _ _).far hne2 _ _).far hne2 _ _).set (p + m)).far hne1 _ _).far hne1 _ _).far hne1 _ _).far hne1 _ _
      · exact grown_new (grown_new (grown_new (grown_new (grown_row (grown_new (grown_new (grown_new (grown_new hg hw _ _) hw _ _) hw _ _) hw _ _) _ _) (Nat.le_refl _) _ _) (Nat.le_refl _) _ _) (Nat.le_refl _) _ _) (Nat.le_refl _) _ _

end Go.Proofs.Yteenkeccpfgffaa
