/- The reference's Tokens (quernref2): the same plain function (chapter 2). -/
import Derived.Test.YteenkeccpfgffaaV
set_option linter.unusedVariables false
set_option linter.unusedSimpArgs false
namespace Go.Proofs.Yteenkeccpfgffaa
open Go.RowKit Go.Proofs.YteenkeccpfgffaaW.PrintWords Go.Proofs.YteenkeccpfgffaaW.PrintLast Go.Proofs.YteenkeccpfgffaaW.PrintMore

theorem tokAt_fault {l : List Int} {p q : Nat} {x : Tok} {e : Int} (h : tokAt l p = (x, e, q)) (he : e ≠ 0) : q = p := by
  unfold tokAt at h
  split at h
  · unfold nameAt at h
    split at h
    · obtain ⟨_, _, rfl⟩ := tri h; rfl
    · obtain ⟨_, h2, _⟩ := tri h; exact absurd h2.symm he
  · split at h
    · unfold numberAt at h
      split at h
      · obtain ⟨_, _, rfl⟩ := tri h; rfl
      · cases hN : numFrom 0 ((l.drop p).take (strL false (l.drop p))) with
        | none => rw [hN] at h; obtain ⟨_, _, rfl⟩ := tri h; rfl
        | some v => rw [hN] at h; obtain ⟨_, h2, _⟩ := tri h; exact absurd h2.symm he
    · split at h
      · unfold signAt at h
        split at h
        · obtain ⟨_, h2, _⟩ := tri h; exact absurd h2.symm he
        · split at h
          · obtain ⟨_, _, rfl⟩ := tri h; rfl
          · obtain ⟨_, h2, _⟩ := tri h; exact absurd h2.symm he
      · obtain ⟨_, _, rfl⟩ := tri h; rfl

set_option maxHeartbeats 4000000 in
theorem reftokens_any (A : Option Addr) (n c : Nat) (l : List Int) (w : World) (out : List Tok) (place err : Int) (hnc : n ≤ c) (hr : ReadsInt w .u8 A n l) (hb : byteRange l) (hn : n ≤ 3000000000000) (h : lexAll l = (out, place, err)) :
    Calls Try.prog 23 #[.slice A n c] w fun e w' => ∃ v, e = .returned (.tuple #[v, .int .i64 place, .int .i64 err]) ∧ kTok.R 33 w' w.heap.size (fun _ => True) v out ∧ Below w.heap.size w w' := by
  have hll := hr.1
  have hL : LexIs l (n + 1) 0 [] out place err := by unfold LexIs; rw [← hll]; exact h
  have HR := Lib.hid hr
  have HB := Lib.hid hb
  have HL := Lib.hid hL
  have HLL := Lib.hid hll
  clear hr hb hL h hll
  go_enter Try.func23, Try.ntmps23
  go_wp2
  go_loopg [5, 6] (n + 1) (fun g v i wr => ∃ (p : Nat) (xs : List Tok), i = .int .i64 p ∧ p ≤ n ∧ n < p + g ∧ xs.length ≤ p ∧ Hid (kTok.R 33 wr w.heap.size (fun _ => True) v xs) ∧ Hid (Below w.heap.size w wr) ∧ Hid (LexIs l g p xs out place err))
  case atStart => exact ⟨0, [], rfl, Nat.zero_le _, by omega, by simp, Lib.hid (Kd.R_nil _ _ _ _ _), Lib.hid (Below.refl _ _), HL⟩
  case round =>
    obtain ⟨p, xs, rfl, hp, hpg, hxs, HO1, HB1, HL1⟩ := hrel
    obtain ⟨g, rfl⟩ : ∃ g, gk = g + 1 := ⟨gk - 1, by omega⟩
    obtain ⟨t, ok, hsk, hpt, htl⟩ := skip_to l p (by rw [HLL.out]; exact hp)
    rw [HLL.out] at htl
    have HR1 := Lib.hid (HR.out.below HB1.out)
    have HSK := Lib.hid hsk
    clear hsk
    cases ok
    · have HBD := Lib.hid (lex_bad HL1.out HSK.out)
      go_wp2_with (go_at_call 29; refine (blank_any A n c p t false l _ (by exact HR1.out) HB.out hp HSK.out).mono ?_; rintro e w' ⟨rfl, rfl⟩)
      go_ret3
      obtain ⟨f1, f2, f3⟩ := HBD.out
      rw [f1, f2, f3]
      exact ⟨_, rfl, HO1.out, HB1.out⟩
    · by_cases hlt : t < n
      · obtain ⟨⟨x, e1, q⟩, hk⟩ : ∃ r, tokAt l t = r := ⟨_, rfl⟩
        have HK := Lib.hid hk
        clear hk
        by_cases he : e1 = 0
        · subst he
          go_wp2_with (first | (go_at_call 29; refine (blank_any A n c p t true l _ (by exact HR1.out) HB.out hp HSK.out).mono ?_; rintro e w' ⟨rfl, rfl⟩) | (go_at_call 30; refine (ref_token A n c t l _ x 0 q hlt hnc hn (by exact HR1.out) HB.out HK.out).mono ?_; rintro e w' ⟨rfl, hb3⟩; have HB3 := Lib.hid (below_then HB1.out HB1.out.size hb3); have HO3 := Lib.hid (Kd.R_below HO1.out hb3); clear hb3) | (at_builtin; refine stop_intro ?_))
          unfold Stop
          refine Kd.R_append kTok (w0 := w) w.heap.size rfl (.tmp 39) (.tmp 41) 28 33 (.agg #[.int .i64 0, .int .i64 0, .int .i64 0, .string ⟨#[]⟩]) 40 rfl Try.underlying28 info33 rfl (by decide) (by decide) _ xs x [.int .i64 x.kind, .int .i64 x.at_, .int .i64 x.value, .string x.name] (fun _ => True) (fun _ => False) rfl (congrArg (fun n => Value.slice (some ⟨n, 0, none⟩) 1 1) (size_alloc' _ _).symm) (kTok_mkM _ _ _ _) (fun _ h => h.elim) ?fresh (own_row_alloc HO3.out _) (HB3.out.alloc HB3.out.size _) ?base ?len ?_
          case fresh => intro k hk; trivial
          case base => rw [size_alloc']; have := HB3.out.size; omega
          case len => omega
          intro v1 w2 hO4 hB4 hg4 hat4
          have HO4 := Lib.hid hO4
          have HB4 := Lib.hid hB4
          clear hO4 hB4 hg4 hat4
          have HN := Lib.hid (lex_next HL1.out HSK.out (by rw [HLL.out]; exact hlt) HK.out)
          have hq := tokAt_ok (by rw [HLL.out]; exact hlt) HK.out
          rw [HLL.out] at hq
          go_wp2
          go_roundg g
          case measure => omega
          case rel => exact ⟨q, xs ++ [x], rfl, hq.2, by omega, by simp; omega, HO4, HB4, HN⟩
        · have heb : (e1 != 0) = true := by simpa using he
          have hf := lex_fault HL1.out HSK.out (by rw [HLL.out]; exact hlt) HK.out he
          rw [tokAt_fault HK.out he] at hf
          have HFT := Lib.hid hf
          clear hf he
          go_wp2_with (first | (go_at_call 29; refine (blank_any A n c p t true l _ (by exact HR1.out) HB.out hp HSK.out).mono ?_; rintro e w' ⟨rfl, rfl⟩) | (go_at_call 30; refine (ref_token A n c t l _ x e1 q hlt hnc hn (by exact HR1.out) HB.out HK.out).mono ?_; rintro e w' ⟨rfl, hb3⟩; have HB3 := Lib.hid (below_then HB1.out HB1.out.size hb3); have HO3 := Lib.hid (Kd.R_below HO1.out hb3); clear hb3))
          go_ret3
          obtain ⟨f1, f2, f3⟩ := HFT.out
          rw [f1, f2, f3]
          exact ⟨_, rfl, own_row_alloc HO3.out _, HB3.out.alloc HB3.out.size _⟩
      · obtain rfl : t = n := by omega
        have HE := Lib.hid (lex_end HL1.out HSK.out (by rw [HLL.out]; omega))
        go_wp2_with (go_at_call 29; refine (blank_any A t c p t true l _ (by exact HR1.out) HB.out hp HSK.out).mono ?_; rintro e w' ⟨rfl, rfl⟩)
        go_ret3
        obtain ⟨f1, f2, f3⟩ := HE.out
        rw [f1, f2, f3]
        exact ⟨_, rfl, HO1.out, HB1.out⟩
end Go.Proofs.Yteenkeccpfgffaa
