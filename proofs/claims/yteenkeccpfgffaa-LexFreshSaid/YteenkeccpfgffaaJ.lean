/- The walk of lex.reader.token (chapter 2), and what it answers as a plain function. -/
import Derived.Test.YteenkeccpfgffaaI
set_option linter.unusedVariables false
set_option linter.unusedSimpArgs false
namespace Go.Proofs.Yteenkeccpfgffaa
open Go.RowKit Go.Proofs.YteenkeccpfgffaaW.PrintWords Go.Proofs.YteenkeccpfgffaaW.PrintLast Go.Proofs.YteenkeccpfgffaaW.PrintMore

def nameAt (l : List Int) (p : Nat) : Tok × Int × Nat :=
  if 64 < strL true (l.drop p) then (Tok.nil, 21, p) else (nameTok p (strOfNums ((l.drop p).take (strL true (l.drop p)))), 0, p + strL true (l.drop p))
def numAns (p m : Nat) : Option Int → Tok × Int × Nat
  | none => (Tok.nil, 22, p)
  | some v => (⟨2, p, v, ⟨#[]⟩⟩, 0, p + m)
def numberAt (l : List Int) (p : Nat) : Tok × Int × Nat :=
  if 1 < strL false (l.drop p) ∧ rd l p = 48 then (Tok.nil, 22, p) else numAns p (strL false (l.drop p)) (numFrom 0 ((l.drop p).take (strL false (l.drop p))))
def signAt (l : List Int) (p : Nat) : Tok × Int × Nat :=
  if p + 1 < l.length ∧ twoK (strOfNums ((l.drop p).take 2)) ≠ 0 then (⟨twoK (strOfNums ((l.drop p).take 2)), p, 0, ⟨#[]⟩⟩, 0, p + 2)
  else if oneK (rd l p) = 0 then (Tok.nil, 20, p) else (⟨oneK (rd l p), p, 0, ⟨#[]⟩⟩, 0, p + 1)
def tokAt (l : List Int) (p : Nat) : Tok × Int × Nat :=
  if cls (rd l p) = 3 then nameAt l p else if cls (rd l p) = 2 then numberAt l p else if cls (rd l p) = 4 then signAt l p else (Tok.nil, 20, p)

theorem tri {α β γ : Type} {a x : α} {b y : β} {c z : γ} (h : (a, b, c) = (x, y, z)) : a = x ∧ b = y ∧ c = z := by cases h; exact ⟨rfl, rfl, rfl⟩
def TokPost (w w' : World) (B : Nat) (A : Option Addr) (n c : Nat) (x : Tok) (err : Int) (q : Nat) (e : Ending) : Prop :=
  e = .returned (.tuple #[.agg #[.int .i64 x.kind, .int .i64 x.at_, .int .i64 x.value, .string x.name], .int .i64 err]) ∧ RS w' B A n c q ∧ w.grownBy w' (some B)
section
variable (B : Nat) (A : Option Addr) (n c p : Nat) (l : List Int) (w : World) (x : Tok) (err : Int) (q : Nat) (hs : RS w B A n c p) (hp : p < n) (hnc : n ≤ c) (hr : ReadsInt w .u8 A n l) (hf : Far A B n) (hb : byteRange l)
include hs hp hnc hr hf hb
theorem name_tok (h : nameAt l p = (x, err, q)) : Calls Try.prog 33 #[.pointer (some ⟨B, 0, none⟩)] w fun e w' => TokPost w w' B A n c x err q e := by
  unfold nameAt at h
  by_cases h64 : 64 < strL true (l.drop p)
  · rw [if_pos h64] at h
    obtain ⟨rfl, rfl, rfl⟩ := tri h
    exact (name_no B A n c p _ l w hs (by omega) hnc hr hf hb rfl h64)
  · rw [if_neg h64] at h
    obtain ⟨rfl, rfl, rfl⟩ := tri h
    exact (name_yes B A n c p _ l w hs (by omega) hnc hr hf hb rfl (by omega))
theorem number_tok (hc : cls (rd l p) = 2) (h : numberAt l p = (x, err, q)) : Calls Try.prog 34 #[.pointer (some ⟨B, 0, none⟩)] w fun e w' => TokPost w w' B A n c x err q e := by
  unfold numberAt at h
  have hm0 : 0 < strL false (l.drop p) := by
    rw [strL_step false l p (by rw [hr.1]; exact hp)]
    simp [strOk, hc]
  by_cases h1 : 1 < strL false (l.drop p) ∧ rd l p = 48
  · rw [if_pos h1] at h
    obtain ⟨rfl, rfl, rfl⟩ := tri h
    exact (number_zero B A n c p _ l w hs (by omega) hnc hr hb rfl h1.1 h1.2).mono fun e w' ⟨⟨h1, h2⟩, h3⟩ => ⟨h1, h2, h3⟩
  · rw [if_neg h1] at h
    have hc := number_any B A n c p _ l w (numFrom 0 ((l.drop p).take (strL false (l.drop p)))) hs (by omega) hnc hr hf hb rfl hm0 (fun h2 h3 => h1 ⟨h2, h3⟩) (by unfold NumIs; rw [List.drop_zero])
    cases hN : numFrom 0 ((l.drop p).take (strL false (l.drop p))) with
    | none =>
      rw [hN] at h hc
      obtain ⟨rfl, rfl, rfl⟩ := tri h
      exact hc.mono fun e w' ⟨⟨h1, h2⟩, h3⟩ => ⟨h1, h2, h3⟩
    | some v =>
      rw [hN] at h hc
      obtain ⟨rfl, rfl, rfl⟩ := tri h
      exact hc.mono fun e w' ⟨⟨h1, h2⟩, h3⟩ => ⟨h1, h2, h3⟩
omit hf hb in
theorem sign_tok (h : signAt l p = (x, err, q)) : Calls Try.prog 35 #[.pointer (some ⟨B, 0, none⟩)] w fun e w' => TokPost w w' B A n c x err q e := by
  unfold signAt at h
  rw [hr.1] at h
  by_cases h1 : p + 1 < n ∧ twoK (strOfNums ((l.drop p).take 2)) ≠ 0
  · rw [if_pos h1] at h
    obtain ⟨rfl, rfl, rfl⟩ := tri h
    exact (sign_two B A n c p l w _ hs h1.1 hnc hr rfl h1.2).mono fun e w' ⟨⟨h1, h2⟩, h3⟩ => ⟨h1, h2, h3⟩
  · rw [if_neg h1] at h
    have hc := sign_one B A n c p l w _ _ hs hp hnc hr rfl (fun h2 => by
      rcases Decidable.em (twoK (strOfNums ((l.drop p).take 2)) = 0) with h3 | h3
      · exact h3
      · exact absurd ⟨h2, h3⟩ h1) rfl
    unfold SignPost at hc
    by_cases hk : oneK (rd l p) = 0
    · rw [if_pos hk] at h
      simp only [if_pos hk] at hc
      obtain ⟨rfl, rfl, rfl⟩ := tri h
      exact hc.mono fun e w' ⟨⟨h1, h2⟩, h3⟩ => ⟨h1, h2, h3⟩
    · rw [if_neg hk] at h
      simp only [if_neg hk] at hc
      obtain ⟨rfl, rfl, rfl⟩ := tri h
      exact hc.mono fun e w' ⟨⟨h1, h2⟩, h3⟩ => ⟨h1, h2, h3⟩

set_option maxHeartbeats 2000000 in
theorem token_any (h : tokAt l p = (x, err, q)) : Calls Try.prog 27 #[.pointer (some ⟨B, 0, none⟩)] w fun e w' => TokPost w w' B A n c x err q e := by
  obtain ⟨ad, hA, hcell⟩ := hr.at_ (p : Int) (by omega) (by omega)
  obtain rfl := hA
  rw [Int.toNat_natCast] at hcell
  have hbk := hb p
  have hn := hr.2.1
  unfold tokAt at h
  have c0 := hs.c0
  have c1 := hs.c1
  have hltB := hs.lt
  have hne1 : B ≠ w.heap.size := by omega
  have hlt2 : B < w.heap.size + 1 := by omega
  have HR := Lib.hid hr
  have HS := Lib.hid hs
  have HB := Lib.hid hb
  have HF := Lib.hid hf
  have HA := Lib.hid (World.block_lt_of_cell? w _ hcell)
  have hcell2 := (World.grownBy_alloc w (.cells #[.int .i64 0, .int .i64 0, .int .i64 0, .string ⟨#[]⟩] 33) none).cell hcell (by simp)
  by_cases h3 : cls (rd l p) = 3
  · rw [if_pos h3] at h
    have H := Lib.hid h
    clear h hr hs hb hf
    generalize rd l p = cv at *
    go_enter Try.func27, Try.ntmps27
    go_wp2
    go_quiet ((go_at_call 31; exact Calls.quiet_of_same ((class_any cv hbk.1 hbk.2 _).mono fun e w' h => ⟨h.1, h.2.symm⟩)))
    go_wp2_with (go_at_call 33; refine (name_tok B (some ad) n c p l _ x err q (by exact (HS.out.alloc _).drewN _) hp hnc (by exact reads_heap (reads_alloc HR.out _) rfl) HF.out HB.out H.out).mono ?_; rintro e w' ⟨rfl, hs1, hg1⟩; have hR1 := (hg1.block w.heap.size (by simp) (by simpa using Ne.symm hne1)).trans (heap_alloc_new w _); have t0 := row_cell hR1; have HS1 := Lib.hid hs1; have HG1 := Lib.hid hg1; have HR1 := Lib.hid hR1; clear hs1 hg1 hR1)
    refine bodyPost_ret (v := .tuple #[.agg #[.int .i64 x.kind, .int .i64 x.at_, .int .i64 x.value, .string x.name], .int .i64 err]) (by exact tok_results Try.results27 rfl rfl (four_row HR1.out) rfl) rfl ⟨rfl, ?_, ?_⟩
    · exact (((HS1.out.far hne1 _ _).far hne1 _ _).far hne1 _ _).far hne1 _ _
    · exact grown_new (grown_new (grown_new (grown_new ((grown_draw (grown_alloc (grown_refl w (some B)) _) _).trans HG1.out) (Nat.le_refl _) _ _) (Nat.le_refl _) _ _) (Nat.le_refl _) _ _) (Nat.le_refl _) _ _
  rw [if_neg h3] at h
  by_cases h2 : cls (rd l p) = 2
  · rw [if_pos h2] at h
    have H := Lib.hid h
    have HC := Lib.hid h2
    clear h hr hs hb hf h3
    generalize hcv : rd l p = cv at hcell hcell2 hbk h2
    clear hcv
    go_enter Try.func27, Try.ntmps27
    go_wp2
    go_quiet ((go_at_call 31; exact Calls.quiet_of_same ((class_any cv hbk.1 hbk.2 _).mono fun e w' h => ⟨h.1, h.2.symm⟩)))
    go_wp2_with (go_at_call 34; refine (number_tok B (some ad) n c p l _ x err q (by exact (HS.out.alloc _).drewN _) hp hnc (by exact reads_heap (reads_alloc HR.out _) rfl) HF.out HB.out HC.out H.out).mono ?_; rintro e w' ⟨rfl, hs1, hg1⟩; have hR1 := (hg1.block w.heap.size (by simp) (by simpa using Ne.symm hne1)).trans (heap_alloc_new w _); have t0 := row_cell hR1; have HS1 := Lib.hid hs1; have HG1 := Lib.hid hg1; have HR1 := Lib.hid hR1; clear hs1 hg1 hR1)
    refine bodyPost_ret (v := .tuple #[.agg #[.int .i64 x.kind, .int .i64 x.at_, .int .i64 x.value, .string x.name], .int .i64 err]) (by exact tok_results Try.results27 rfl rfl (four_row HR1.out) rfl) rfl ⟨rfl, ?_, ?_⟩
    · exact (((HS1.out.far hne1 _ _).far hne1 _ _).far hne1 _ _).far hne1 _ _
    · exact grown_new (grown_new (grown_new (grown_new ((grown_draw (grown_alloc (grown_refl w (some B)) _) _).trans HG1.out) (Nat.le_refl _) _ _) (Nat.le_refl _) _ _) (Nat.le_refl _) _ _) (Nat.le_refl _) _ _
  rw [if_neg h2] at h
  by_cases h4 : cls (rd l p) = 4
  · rw [if_pos h4] at h
    have H := Lib.hid h
    clear h hr hs hb hf h3 h2
    generalize hcv : rd l p = cv at *
    clear hcv
    go_enter Try.func27, Try.ntmps27
    go_wp2
    go_quiet ((go_at_call 31; exact Calls.quiet_of_same ((class_any cv hbk.1 hbk.2 _).mono fun e w' h => ⟨h.1, h.2.symm⟩)))
    go_wp2_with (go_at_call 35; refine (sign_tok B (some ad) n c p l _ x err q (by exact (HS.out.alloc _).drewN _) hp hnc (by exact reads_heap (reads_alloc HR.out _) rfl) H.out).mono ?_; rintro e w' ⟨rfl, hs1, hg1⟩; have hR1 := (hg1.block w.heap.size (by simp) (by simpa using Ne.symm hne1)).trans (heap_alloc_new w _); have t0 := row_cell hR1; have HS1 := Lib.hid hs1; have HG1 := Lib.hid hg1; have HR1 := Lib.hid hR1; clear hs1 hg1 hR1)
    refine bodyPost_ret (v := .tuple #[.agg #[.int .i64 x.kind, .int .i64 x.at_, .int .i64 x.value, .string x.name], .int .i64 err]) (by exact tok_results Try.results27 rfl rfl (four_row HR1.out) rfl) rfl ⟨rfl, ?_, ?_⟩
    · exact (((HS1.out.far hne1 _ _).far hne1 _ _).far hne1 _ _).far hne1 _ _
    · exact grown_new (grown_new (grown_new (grown_new ((grown_draw (grown_alloc (grown_refl w (some B)) _) _).trans HG1.out) (Nat.le_refl _) _ _) (Nat.le_refl _) _ _) (Nat.le_refl _) _ _) (Nat.le_refl _) _ _
  rw [if_neg h4] at h
  obtain ⟨rfl, rfl, rfl⟩ := tri h
  have k3 : (cls (rd l p) == 3) = false := by simpa using h3
  have k2 : (cls (rd l p) == 2) = false := by simpa using h2
  have k4 : (cls (rd l p) == 4) = false := by simpa using h4
  clear h hr hs hb hf h2 h3 h4
  generalize rd l p = cv at *
  go_enter Try.func27, Try.ntmps27
  go_wp2
  go_quiet ((go_at_call 31; exact Calls.quiet_of_same ((class_any cv hbk.1 hbk.2 _).mono fun e w' h => ⟨h.1, h.2.symm⟩)))
  go_wp2
  refine bodyPost_ret (v := .tuple #[.agg Tok.nil.cells, .int .i64 20]) (by exact tok_results Try.results27 rfl rfl (four_row (heap_alloc_new w _)) rfl) rfl ⟨rfl, ?_, ?_⟩
  · exact (((((HS.out.alloc _).drewN _).far hne1 _ _).far hne1 _ _).far hne1 _ _).far hne1 _ _
  · exact grown_new (grown_new (grown_new (grown_new (grown_draw (grown_alloc (grown_refl w (some B)) _) _) (Nat.le_refl _) _ _) (Nat.le_refl _) _ _) (Nat.le_refl _) _ _) (Nat.le_refl _) _ _
end
end Go.Proofs.Yteenkeccpfgffaa
