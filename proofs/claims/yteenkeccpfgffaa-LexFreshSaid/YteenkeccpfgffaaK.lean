/- lex.Tokens as a plain function, and its walk (chapter 2). -/
import Derived.Test.YteenkeccpfgffaaJ
set_option linter.unusedVariables false
set_option linter.unusedSimpArgs false
namespace Go.Proofs.Yteenkeccpfgffaa
open Go.RowKit Go.Proofs.YteenkeccpfgffaaW.PrintWords Go.Proofs.YteenkeccpfgffaaW.PrintLast Go.Proofs.YteenkeccpfgffaaW.PrintMore

def lexFrom (l : List Int) : Nat → Nat → List Tok → List Tok × Int × Int
  | 0, _, acc => (acc, 0, 0)
  | k + 1, p, acc =>
    if (skipL false (l.drop p)).2 = false then (acc, p + (skipL false (l.drop p)).1, 20)
    else if l.length ≤ p + (skipL false (l.drop p)).1 then (acc, 0, 0)
    else if (tokAt l (p + (skipL false (l.drop p)).1)).2.1 ≠ 0 then (acc, (tokAt l (p + (skipL false (l.drop p)).1)).2.2, (tokAt l (p + (skipL false (l.drop p)).1)).2.1)
    else lexFrom l k (tokAt l (p + (skipL false (l.drop p)).1)).2.2 (acc ++ [(tokAt l (p + (skipL false (l.drop p)).1)).1])
def lexAll (l : List Int) : List Tok × Int × Int := lexFrom l (l.length + 1) 0 []
def LexIs (l : List Int) (k p : Nat) (acc out : List Tok) (place err : Int) : Prop := lexFrom l k p acc = (out, place, err)
section
variable {l : List Int} {k p q t : Nat} {acc out : List Tok} {place err e : Int} {x : Tok} {ok : Bool}
theorem lex_bad (h : LexIs l (k + 1) p acc out place err) (hs : SkipTo l false p t false) : out = acc ∧ place = t ∧ err = 20 := by
  unfold LexIs lexFrom at h
  rw [if_pos hs.2] at h
  obtain ⟨h1, h2, h3⟩ := tri h
  exact ⟨h1.symm, by rw [← h2, ← hs.1]; simp, h3.symm⟩
theorem lex_end (h : LexIs l (k + 1) p acc out place err) (hs : SkipTo l false p t true) (ht : l.length ≤ t) : out = acc ∧ place = 0 ∧ err = 0 := by
  unfold LexIs lexFrom at h
  rw [if_neg (by rw [hs.2]; decide), if_pos (by rw [hs.1]; exact ht)] at h
  obtain ⟨h1, h2, h3⟩ := tri h
  exact ⟨h1.symm, h2.symm, h3.symm⟩
theorem lex_fault (h : LexIs l (k + 1) p acc out place err) (hs : SkipTo l false p t true) (ht : t < l.length) (hk : tokAt l t = (x, e, q)) (he : e ≠ 0) : out = acc ∧ place = q ∧ err = e := by
  unfold LexIs lexFrom at h
  rw [if_neg (by rw [hs.2]; decide), if_neg (by rw [hs.1]; omega), hs.1, hk, if_pos he] at h
  obtain ⟨h1, h2, h3⟩ := tri h
  exact ⟨h1.symm, h2.symm, h3.symm⟩
theorem lex_next (h : LexIs l (k + 1) p acc out place err) (hs : SkipTo l false p t true) (ht : t < l.length) (hk : tokAt l t = (x, 0, q)) : LexIs l k q (acc ++ [x]) out place err := by
  unfold LexIs at h ⊢
  rw [lexFrom, if_neg (by rw [hs.2]; decide), if_neg (by rw [hs.1]; omega), hs.1, hk, if_neg (by simp)] at h
  exact h
theorem tokAt_ok (hp : p < l.length) (h : tokAt l p = (x, 0, q)) : p < q ∧ q ≤ l.length := by
  have h3 : ∀ b, strL b (l.drop p) ≤ l.length - p := fun b => by have := strL_le b (l.drop p); rwa [List.length_drop] at this
  unfold tokAt at h
  split at h
  · rename_i hc
    unfold nameAt at h
    split at h
    · obtain ⟨_, h2, _⟩ := tri h; simp at h2
    · obtain ⟨_, _, rfl⟩ := tri h
      have := h3 true
      have h4 : 0 < strL true (l.drop p) := by rw [strL_step true l p hp]; simp [strOk, hc]
      omega
  · split at h
    · rename_i hc
      unfold numberAt at h
      split at h
      · obtain ⟨_, h2, _⟩ := tri h; simp at h2
      · cases hN : numFrom 0 ((l.drop p).take (strL false (l.drop p))) with
        | none => rw [hN] at h; obtain ⟨_, h2, _⟩ := tri h; simp at h2
        | some v =>
          rw [hN] at h
          obtain ⟨_, _, rfl⟩ := tri h
          have := h3 false
          have h4 : 0 < strL false (l.drop p) := by rw [strL_step false l p hp]; simp [strOk, hc]
          omega
    · split at h
      · unfold signAt at h
        split at h
        · rename_i hc
          obtain ⟨_, _, rfl⟩ := tri h
          omega
        · split at h
          · obtain ⟨_, h2, _⟩ := tri h; simp at h2
          · obtain ⟨_, _, rfl⟩ := tri h
            omega
      · obtain ⟨_, h2, _⟩ := tri h; simp at h2
theorem skip_to (l : List Int) (p : Nat) (hp : p ≤ l.length) : ∃ t ok, SkipTo l false p t ok ∧ p ≤ t ∧ t ≤ l.length := by
  refine ⟨_, _, ⟨rfl, rfl⟩, by omega, ?_⟩
  have := skipL_le false (l.drop p)
  rw [List.length_drop] at this
  omega
end

def kTok : Kd Tok := Kd.iso (Kd.pair (Kd.int .i64) (Kd.pair (Kd.int .i64) (Kd.pair (Kd.int .i64) Kd.string))) (fun x : Tok => (x.kind, x.at_, x.value, x.name))
theorem kTok_mkM (w : World) (base : Nat) (ok : Nat → Prop) (x : Tok) : kTok.M w base ok x [.int .i64 x.kind, .int .i64 x.at_, .int .i64 x.value, .string x.name] := ⟨[.int .i64 x.kind], [.int .i64 x.at_, .int .i64 x.value, .string x.name], rfl, rfl, ⟨[.int .i64 x.at_], [.int .i64 x.value, .string x.name], rfl, rfl, ⟨[.int .i64 x.value], [.string x.name], rfl, rfl, rfl⟩⟩⟩
theorem kTok_open {w : World} {x : Tok} {cs : List Value} (h : kTok.K w x cs) : cs = [.int .i64 x.kind, .int .i64 x.at_, .int .i64 x.value, .string x.name] := by
  obtain ⟨_, _, rfl, rfl, ⟨_, _, rfl, rfl, ⟨_, _, rfl, rfl, rfl⟩⟩⟩ := h
  exact rfl
theorem info33 : (Try.prog.info? 33).map (fun i => (i.zero, i.size, i.bytes)) = some (some (.agg #[.int .i64 0, .int .i64 0, .int .i64 0, .string ⟨#[]⟩]), 4, 40) := by kernel_rfl
end Go.Proofs.Yteenkeccpfgffaa
