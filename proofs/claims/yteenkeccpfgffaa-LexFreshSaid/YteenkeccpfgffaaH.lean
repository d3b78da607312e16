/- Walks of lex.reader.number (a 0 ahead) and sign (chapter 2). -/
import Derived.Test.YteenkeccpfgffaaG
set_option linter.unusedVariables false
set_option linter.unusedSimpArgs false
namespace Go.Proofs.Yteenkeccpfgffaa
open Go.RowKit Go.Proofs.YteenkeccpfgffaaW.PrintWords Go.Proofs.YteenkeccpfgffaaW.PrintLast Go.Proofs.YteenkeccpfgffaaW.PrintMore

set_option maxHeartbeats 2000000 in
theorem number_zero (B : Nat) (A : Option Addr) (n c p m : Nat) (l : List Int) (w : World) (hs : RS w B A n c p) (hp : p ≤ n) (hnc : n ≤ c) (hr : ReadsInt w .u8 A n l) (hb : byteRange l) (hm : strL false (l.drop p) = m) (hm0 : 1 < m) (hz : rd l p = 48) :
    Calls Try.prog 34 #[.pointer (some ⟨B, 0, none⟩)] w fun e w' => NumPost w' B A n c p m none e ∧ w.grownBy w' (some B) := by
  have hn := hr.2.1
  have hstr : m ≤ n - p := by
    have h := strL_le false (l.drop p)
    rw [List.length_drop, hr.1, hm] at h
    exact h
  have hfst : rd ((l.drop p).take m) 0 = rd l p := by
    have := rd_take (l.drop p) m 0 (by omega)
    rw [show ((0 : Nat) : Int) = 0 from rfl] at this
    rw [this, rd_drop0]
  rw [hz] at hfst
  have HFST := Lib.hid hfst
  generalize hds : (l.drop p).take m = ds at *
  have HDS := Lib.hid hds
  have HM := Lib.hid hm
  have HR := Lib.hid hr
  have HS := Lib.hid hs
  have HB := Lib.hid hb
  have hltB := hs.lt
  have hne1 : B ≠ w.heap.size := by omega
  clear hr hs hb hm hz hfst hds
  go_enter Try.func34, Try.ntmps34
  go_wp2_with (go_at_call 42; refine (stretch_any B false A n c p l _ (by exact (HS.out.alloc _).c0) (by exact (HS.out.alloc _).c1) hp hnc (by exact reads_alloc HR.out _) (by exact HB.out)).mono ?_; rintro e w' ⟨rfl, nq, rfl⟩; rw [HM.out])
  obtain ⟨Z, hz⟩ : ∃ Z, Z = (Obj.cells #[Value.int IntKind.i64 0, Value.int IntKind.i64 0, Value.int IntKind.i64 0, Value.string ⟨#[]⟩] 33) := ⟨_, rfl⟩
  rw [← hz]
  refine (rest_any B A n c p _ (by exact (HS.out.alloc _).c0) (by exact (HS.out.alloc _).c1) hp).mono ?_
  rintro e w' ⟨A2, rfl, HRD2, nq2, rfl⟩
  obtain ⟨hsl, _, _, _⟩ := cut_string HRD2 hnc (reads_alloc HR.out Z) hstr
  have HX0 := (HRD2 _ .u8 l hnc (reads_alloc HR.out Z)).take_ m hstr
  rw [HDS.out] at HX0
  obtain ⟨ad, hA, hcell⟩ := cell_zero HX0 (by omega)
  rw [HFST.out] at hcell
  have HX := Lib.hid HX0
  clear HX0 HRD2
  obtain rfl := hA
  subst hz
  go_wp2
  refine bodyPost_ret (v := .tuple #[.agg Tok.nil.cells, .int .i64 22]) (by exact tok_results Try.results34 rfl rfl (four_row (heap_alloc_new w _)) rfl) rfl ⟨?_, ?_⟩
  · exact ⟨rfl, ((((((HS.out.alloc _).drewN _).far hne1 _ _).far hne1 _ _).far hne1 _ _).far hne1 _ _)⟩
  · exact grown_new (grown_new (grown_new (grown_new (grown_draw (grown_alloc (grown_refl w (some B)) _) _) (Nat.le_refl _) _ _) (Nat.le_refl _) _ _) (Nat.le_refl _) _ _) (Nat.le_refl _) _ _

/-- rest, and all that is wanted of 'r.rest()[:m]', in worlds that are w0 but for draws. -/
theorem rest_cutN (B : Nat) (A : Option Addr) (n c p m : Nat) (l : List Int) (w0 : World) (a : Nat) (hs : RS w0 B A n c p) (hr : ReadsInt w0 .u8 A n l) (hp : p ≤ n) (hnc : n ≤ c) (hm : m ≤ n - p) :
    Calls Try.prog 32 #[.pointer (some ⟨B, 0, none⟩)] (w0.drewN a) fun e w' => ∃ (A2 : Option Addr) (nq : Nat), e = .returned (.slice A2 (n - p) (c - p)) ∧ w' = w0.drewN nq ∧
      (∀ W : World, (Instr.slice 22 (.slice A2 (n - p) (c - p)) none (some (.int .i64 (m : Int))) none).run Try.prog W = .ok (.slice A2 m (c - p)) W) ∧
      (∀ k, (convert 22 9 (.slice A2 m (c - p))).run Try.prog (w0.drewN k) = .ok (.string (strOfNums ((l.drop p).take m))) (w0.drewN k)) ∧
      (∀ o k, (convert 22 9 (.slice A2 m (c - p))).run Try.prog ((w0.drewN k).alloc o) = .ok (.string (strOfNums ((l.drop p).take m))) ((w0.drewN k).alloc o)) ∧
      (∀ o k j, (convert 22 9 (.slice A2 m (c - p))).run Try.prog (((w0.drewN k).alloc o).drewN j) = .ok (.string (strOfNums ((l.drop p).take m))) (((w0.drewN k).alloc o).drewN j)) ∧
      Hid (ReadsInt w0 .u8 A2 (n - p) (l.drop p)) := by
  refine (rest_any B A n c p _ (hs.drewN a).c0 (hs.drewN a).c1 hp).mono ?_
  rintro e w' ⟨A2, rfl, h, nq, rfl⟩
  obtain ⟨h1, h2, h3, h4⟩ := cut_string h hnc hr hm
  exact ⟨A2, a + nq, rfl, World.drewN_drewN _ _ _, h1, h2, h3, h4, Lib.hid (h w0 .u8 l hnc hr)⟩
theorem rest_cut (B : Nat) (A : Option Addr) (n c p m : Nat) (l : List Int) (w0 : World) (hs : RS w0 B A n c p) (hr : ReadsInt w0 .u8 A n l) (hp : p ≤ n) (hnc : n ≤ c) (hm : m ≤ n - p) :
    Calls Try.prog 32 #[.pointer (some ⟨B, 0, none⟩)] w0 fun e w' => ∃ (A2 : Option Addr) (nq : Nat), e = .returned (.slice A2 (n - p) (c - p)) ∧ w' = w0.drewN nq ∧
      (∀ W : World, (Instr.slice 22 (.slice A2 (n - p) (c - p)) none (some (.int .i64 (m : Int))) none).run Try.prog W = .ok (.slice A2 m (c - p)) W) ∧
      (∀ k, (convert 22 9 (.slice A2 m (c - p))).run Try.prog (w0.drewN k) = .ok (.string (strOfNums ((l.drop p).take m))) (w0.drewN k)) ∧
      (∀ o k, (convert 22 9 (.slice A2 m (c - p))).run Try.prog ((w0.drewN k).alloc o) = .ok (.string (strOfNums ((l.drop p).take m))) ((w0.drewN k).alloc o)) ∧
      (∀ o k j, (convert 22 9 (.slice A2 m (c - p))).run Try.prog (((w0.drewN k).alloc o).drewN j) = .ok (.string (strOfNums ((l.drop p).take m))) (((w0.drewN k).alloc o).drewN j)) ∧
      Hid (ReadsInt w0 .u8 A2 (n - p) (l.drop p)) := rest_cutN B A n c p m l w0 0 hs hr hp hnc hm

set_option maxHeartbeats 2000000 in
theorem sign_two (B : Nat) (A : Option Addr) (n c p : Nat) (l : List Int) (w : World) (k : Int) (hs : RS w B A n c p) (hp : p + 1 < n) (hnc : n ≤ c) (hr : ReadsInt w .u8 A n l) (hk : twoK (strOfNums ((l.drop p).take 2)) = k) (hk0 : k ≠ 0) :
    Calls Try.prog 35 #[.pointer (some ⟨B, 0, none⟩)] w fun e w' => (e = .returned (.tuple #[.agg (Tok.mk k p 0 ⟨#[]⟩).cells, .int .i64 0]) ∧ RS w' B A n c (p + 2)) ∧ w.grownBy w' (some B) := by
  have hn := hr.2.1
  have hkb : (k == 0) = false := by simpa using hk0
  have HK := Lib.hid hk
  have HR := Lib.hid hr
  have HS := Lib.hid hs
  have hltB := hs.lt
  have hne1 : B ≠ w.heap.size := by omega
  have hne2 : B ≠ w.heap.size + 1 := by omega
  have c1 := hs.c1
  have f1 := hs.f1
  have hp' : p ≤ n := by omega
  have h2 : 2 ≤ n - p := by omega
  clear hr hs hk hk0
  go_enter Try.func35, Try.ntmps35
  go_wp2_with (first | (go_at_call 32; (with_reducible refine (rest_cutN B A n c p 2 l _ _ (by exact (HS.out.alloc _).alloc _) (by exact reads_alloc (reads_alloc HR.out _) _) hp' hnc h2).mono ?_); rintro e w' ⟨A2, nq2, rfl, rfl, hsl, hcv, hcw, hcu, HX⟩) | (go_at_call 32; refine (rest_cut B A n c p 2 l _ (by exact (HS.out.alloc _).alloc _) (by exact reads_alloc (reads_alloc HR.out _) _) hp' hnc h2).mono ?_; rintro e w' ⟨A2, nq2, rfl, rfl, hsl, hcv, hcw, hcu, HX⟩) | (go_at_call 44; refine (two_any _ _).mono ?_; rw [HK.out]; rintro e w' ⟨rfl, rfl⟩))
  have hw : w.heap.size ≤ w.heap.size + 1 := Nat.le_succ _
  have hne3 : w.heap.size ≠ w.heap.size + 1 := by omega
  refine bodyPost_ret (v := .tuple #[.agg (Tok.mk k p 0 ⟨#[]⟩).cells, .int .i64 0]) (by exact tok_results Try.results35 rfl rfl (four_row (far_row (far_row (heap_alloc2_old w _ _) hne3) (Ne.symm hne1))) rfl) rfl ⟨⟨rfl, ?_⟩, ?_⟩
  · exact ((((((((HS.out.alloc _).alloc _).drewN _).far hne2 _ _).set (p + 2)).far hne1 _ _).far hne1 _ _).far hne1 _ _).far hne1 _ _
  · exact grown_new (grown_new (grown_new (grown_new (grown_row (grown_new (grown_draw (grown_alloc (grown_alloc (grown_refl w (some B)) _) _) _) hw _ _) _ _) (Nat.le_refl _) _ _) (Nat.le_refl _) _ _) (Nat.le_refl _) _ _) (Nat.le_refl _) _ _

end Go.Proofs.Yteenkeccpfgffaa
