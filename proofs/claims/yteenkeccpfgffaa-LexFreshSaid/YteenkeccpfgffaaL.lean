/- The walk of lex.Tokens (chapter 2). -/
import Derived.Test.YteenkeccpfgffaaK
set_option linter.unusedVariables false
set_option linter.unusedSimpArgs false
namespace Go.Proofs.Yteenkeccpfgffaa
open Go.RowKit Go.Proofs.YteenkeccpfgffaaW.PrintWords Go.Proofs.YteenkeccpfgffaaW.PrintLast Go.Proofs.YteenkeccpfgffaaW.PrintMore

def Stop (p : Prop) : Prop := p
theorem stop_intro {p : Prop} (h : Stop p) : p := h
theorem below_row_grown {w w1 w2 : World} {B : Nat} (h : Below w.heap.size w w1) (hB : w.heap.size ≤ B) (hg : w1.grownBy w2 (some B)) : Below w.heap.size w w2 :=
  h.grown hg h.size (fun k hk => by cases hk; exact hB)
theorem own_row_grown {w1 w2 : World} {B base : Nat} {v : Value} {xs : List Tok} (h : kTok.R 33 w1 base (fun k => k ≠ B) v xs) (hg : w1.grownBy w2 (some B)) : kTok.R 33 w2 base (fun k => k ≠ B) v xs :=
  Kd.R_grown h hg (fun k hk he => hk (Option.some.inj he))
theorem own_row_alloc {w1 : World} {base : Nat} {ok : Nat → Prop} {v : Value} {xs : List Tok} (h : kTok.R 33 w1 base ok v xs) (o : Obj) : kTok.R 33 (w1.alloc o) base ok v xs :=
  Kd.R_below h ((Below.refl _ _).alloc (Nat.le_refl _) o)

set_option maxHeartbeats 4000000 in
theorem tokens_any (A : Option Addr) (n c : Nat) (l : List Int) (w : World) (out : List Tok) (place err : Int) (hnc : n ≤ c) (hr : ReadsInt w .u8 A n l) (hb : byteRange l) (hn : n ≤ 3000000000000) (h : lexAll l = (out, place, err)) :
    Calls Try.prog 13 #[.slice A n c] w fun e w' => ∃ v, e = .returned (.tuple #[v, .int .i64 place, .int .i64 err]) ∧ kTok.R 33 w' w.heap.size (fun _ => True) v out ∧ Below w.heap.size w w' := by
  have hll := hr.1
  have hL : LexIs l (n + 1) 0 [] out place err := by unfold LexIs; rw [← hll]; exact h
  have hf : Far A w.heap.size n := by
    intro h0 ad hA
    obtain ⟨ad', hA', hc⟩ := hr.2.2 h0
    obtain rfl := Option.some.inj (hA.symm.trans hA')
    have := World.block_lt_of_cell? w _ (hc 0 h0)
    rw [show ad.add 0 = ad by unfold Addr.add; simp] at this
    omega
  have HR := Lib.hid hr
  have HB := Lib.hid hb
  have HF := Lib.hid hf
  have HL := Lib.hid hL
  have HLL := Lib.hid hll
  clear hr hb hf hL h hll
  go_enter Try.func13, Try.ntmps13
  go_wp2
  go_loopg [6] (n + 1) (fun g v wr => ∃ (p : Nat) (xs : List Tok), p ≤ n ∧ n < p + g ∧ xs.length ≤ p ∧ Hid (RS wr w.heap.size A n c p) ∧ Hid (kTok.R 33 wr w.heap.size (fun k => k ≠ w.heap.size) v xs) ∧ Hid (Below w.heap.size w wr) ∧ Hid (LexIs l g p xs out place err))
  case atStart => exact ⟨0, [], Nat.zero_le _, by omega, by simp, Lib.hid (heap_alloc_new w _), Lib.hid (Kd.R_nil _ _ _ _ _), Lib.hid ((Below.refl _ _).alloc (Nat.le_refl _) _), HL⟩
  case round =>
    obtain ⟨p, xs, hp, hpg, hxs, HS1, HO1, HB1, HL1⟩ := hrel
    obtain ⟨g, rfl⟩ : ∃ g, gk = g + 1 := ⟨gk - 1, by omega⟩
    obtain ⟨t, ok, hsk, hpt, htl⟩ := skip_to l p (by rw [HLL.out]; exact hp)
    rw [HLL.out] at htl
    have HR1 := Lib.hid (HR.out.below HB1.out)
    have HSK := Lib.hid hsk
    clear hsk
    cases ok
    · have HBD := Lib.hid (lex_bad HL1.out HSK.out)
      go_wp2_with (go_at_call 26; refine (skip_any w.heap.size A n c p t false l _ (by exact HS1.out) hp hnc (by exact HR1.out) HF.out HB.out HSK.out).mono ?_; rintro e w' ⟨rfl, hs2, hg2⟩; have d1 := hs2.c1; have HG2 := Lib.hid hg2; clear hs2 hg2)
      go_quiet (fail)
      go_wp2
      go_ret3
      obtain ⟨f1, f2, f3⟩ := HBD.out
      rw [f1, f2, f3]
      exact ⟨_, rfl, Kd.R_mono (Kd.R_below (own_row_grown HO1.out HG2.out) (by exact (Drawn0.below ⟨_, rfl⟩))) (fun _ _ => trivial), pw_below_drewN (below_row_grown HB1.out (Nat.le_refl _) HG2.out) _⟩
    · by_cases hlt : t < n
      · obtain ⟨⟨x, e1, q⟩, hk⟩ : ∃ r, tokAt l t = r := ⟨_, rfl⟩
        have HK := Lib.hid hk
        clear hk
        by_cases he : e1 = 0
        · subst he
          go_wp2_with (first | (go_at_call 26; refine (skip_any w.heap.size A n c p t true l _ (by exact HS1.out) hp hnc (by exact HR1.out) HF.out HB.out HSK.out).mono ?_; rintro e w' ⟨rfl, hs2, hg2⟩; have d1 := hs2.c1; have HS2 := Lib.hid hs2; have HG2 := Lib.hid hg2; have HR2 := Lib.hid (reads_grown HR1.out hg2 HF.out); clear hs2 hg2) | (go_at_call 27; refine (token_any w.heap.size A n c t l _ x 0 q (by exact HS2.out) hlt hnc (by exact HR2.out) HF.out HB.out HK.out).mono ?_; rintro e w' ⟨rfl, hs3, hg3⟩; have d2 := hs3.c1; have HS3 := Lib.hid hs3; have HB3 := Lib.hid (below_row_grown (below_row_grown HB1.out (Nat.le_refl _) HG2.out) (Nat.le_refl _) hg3); have HO3 := Lib.hid (own_row_grown (own_row_grown HO1.out HG2.out) hg3); have hsz := hg3.size; clear hs3 hg3) | (at_builtin; refine stop_intro ?_))
          unfold Stop
          refine Kd.R_append kTok (w0 := w) w.heap.size rfl (.tmp 41) (.tmp 43) 28 33 (.agg #[.int .i64 0, .int .i64 0, .int .i64 0, .string ⟨#[]⟩]) 40 rfl Try.underlying28 info33 rfl (by decide) (by decide) _ xs x [.int .i64 x.kind, .int .i64 x.at_, .int .i64 x.value, .string x.name] (fun k => k ≠ w.heap.size) (fun _ => False) rfl (congrArg (fun n => Value.slice (some ⟨n, 0, none⟩) 1 1) (size_alloc' _ _).symm) (kTok_mkM _ _ _ _) (fun _ h => h.elim) ?fresh (own_row_alloc HO3.out _) (HB3.out.alloc HB3.out.size _) ?base ?len ?_
          case fresh => intro k hk he; rw [size_alloc'] at hk; have := HB3.out.size; omega
          case base => rw [size_alloc']; have := HB3.out.size; omega
          case len => omega
          intro v1 w2 hO4 hB4 hg4 hat4
          have HO4 := Lib.hid hO4
          have HB4 := Lib.hid hB4
          have HS4 := Lib.hid ((HS3.out.alloc (.cells #[.int .i64 x.kind, .int .i64 x.at_, .int .i64 x.value, .string x.name] 33)).grown hg4 (fun he => HO3.out.1 _ he.symm rfl))
          clear hO4 hB4 hg4 hat4
          have HN := Lib.hid (lex_next HL1.out HSK.out (by rw [HLL.out]; exact hlt) HK.out)
          have hq := tokAt_ok (by rw [HLL.out]; exact hlt) HK.out
          rw [HLL.out] at hq
          go_wp2
          go_roundg g
          case measure => omega
          case rel => exact ⟨q, xs ++ [x], hq.2, by omega, by simp; omega, HS4, HO4, HB4, HN⟩
        · have heb : (e1 != 0) = true := by simpa using he
          have hf := lex_fault HL1.out HSK.out (by rw [HLL.out]; exact hlt) HK.out he
          have HFT := Lib.hid hf
          clear hf he
          go_wp2_with (first | (go_at_call 26; refine (skip_any w.heap.size A n c p t true l _ (by exact HS1.out) hp hnc (by exact HR1.out) HF.out HB.out HSK.out).mono ?_; rintro e w' ⟨rfl, hs2, hg2⟩; have d1 := hs2.c1; have HS2 := Lib.hid hs2; have HG2 := Lib.hid hg2; have HR2 := Lib.hid (reads_grown HR1.out hg2 HF.out); clear hs2 hg2) | (go_at_call 27; refine (token_any w.heap.size A n c t l _ x e1 q (by exact HS2.out) hlt hnc (by exact HR2.out) HF.out HB.out HK.out).mono ?_; rintro e w' ⟨rfl, hs3, hg3⟩; have d2 := hs3.c1; have d2a := (hs3.alloc (.cells #[.int .i64 x.kind, .int .i64 x.at_, .int .i64 x.value, .string x.name] 33)).c1; have HS3 := Lib.hid hs3; have HB3 := Lib.hid (below_row_grown (below_row_grown HB1.out (Nat.le_refl _) HG2.out) (Nat.le_refl _) hg3); have HO3 := Lib.hid (own_row_grown (own_row_grown HO1.out HG2.out) hg3); have hsz := hg3.size; clear hs3 hg3))
          go_quiet (fail)
          go_wp2
          go_ret3
          obtain ⟨f1, f2, f3⟩ := HFT.out
          rw [f1, f2, f3]
          exact ⟨_, rfl, Kd.R_mono (Kd.R_below (own_row_alloc HO3.out _) (by exact (Drawn0.below ⟨_, rfl⟩))) (fun _ _ => trivial), pw_below_drewN (HB3.out.alloc HB3.out.size _) _⟩
      · obtain rfl : t = n := by omega
        have HE := Lib.hid (lex_end HL1.out HSK.out (by rw [HLL.out]; omega))
        go_wp2_with (go_at_call 26; refine (skip_any w.heap.size A t c p t true l _ (by exact HS1.out) hp hnc (by exact HR1.out) HF.out HB.out HSK.out).mono ?_; rintro e w' ⟨rfl, hs2, hg2⟩; have d1 := hs2.c1; have HG2 := Lib.hid hg2; clear hs2 hg2)
        go_ret3
        obtain ⟨f1, f2, f3⟩ := HE.out
        rw [f1, f2, f3]
        exact ⟨_, rfl, Kd.R_mono (own_row_grown HO1.out HG2.out) (fun _ _ => trivial), below_row_grown HB1.out (Nat.le_refl _) HG2.out⟩
end Go.Proofs.Yteenkeccpfgffaa
