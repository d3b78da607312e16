/- The plain lexer by suffixes: what stands ahead moves places alone (chapter 2; plain). -/
import Derived.Test.YteenkeccpfgffaaX
set_option linter.unusedVariables false
set_option linter.unusedSimpArgs false
namespace Go.Proofs.Yteenkeccpfgffaa
open Go.RowKit Go.Proofs.YteenkeccpfgffaaW.PrintWords Go.Proofs.YteenkeccpfgffaaW.PrintLast Go.Proofs.YteenkeccpfgffaaW.PrintMore

def Tok.shift (x : Tok) (d : Int) : Tok := ⟨x.kind, x.at_ + d, x.value, x.name⟩
def tokS (t : List Int) : Tok × Int × Nat := tokAt t 0
def shiftAns (d : Nat) (r : Tok × Int × Nat) : Tok × Int × Nat := (if r.2.1 = 0 then r.1.shift d else r.1, r.2.1, d + r.2.2)
theorem nameTok_shift (p : Nat) (s : ByteArray) : (nameTok 0 s).shift p = nameTok p s := by
  unfold nameTok
  split <;> simp [Tok.shift]
theorem rd_zero_drop (l : List Int) (p : Nat) : rd (l.drop p) ((0 : Nat) : Int) = rd l p := rd_drop0 l p
theorem tokAt_drop (l : List Int) (p : Nat) : tokAt l p = shiftAns p (tokS (l.drop p)) := by
  unfold tokS tokAt
  rw [rd_zero_drop]
  split
  · unfold nameAt
    simp only [List.drop_zero]
    split
    · simp [shiftAns]
    · simp only [shiftAns, if_true]
      rw [show ((0 : Nat) : Int) = 0 from rfl, nameTok_shift]
      simp
  · split
    · unfold numberAt
      simp only [List.drop_zero]
      rw [rd_zero_drop]
      split
      · simp [shiftAns]
      · cases numFrom 0 ((l.drop p).take (strL false (l.drop p))) with
        | none => simp [numAns, shiftAns]
        | some v => simp [numAns, shiftAns, Tok.shift]
    · split
      · unfold signAt
        simp only [List.drop_zero]
        rw [rd_zero_drop]
        have e : (0 + 1 < (l.drop p).length ∧ twoK (strOfNums ((l.drop p).take 2)) ≠ 0) ↔ (p + 1 < l.length ∧ twoK (strOfNums ((l.drop p).take 2)) ≠ 0) := by
          rw [List.length_drop]
          constructor <;> intro h <;> exact ⟨by omega, h.2⟩
        by_cases h : p + 1 < l.length ∧ twoK (strOfNums ((l.drop p).take 2)) ≠ 0
        · rw [if_pos h, if_pos (e.2 h)]
          simp [shiftAns, Tok.shift]
        · rw [if_neg h, if_neg (fun h2 => h (e.1 h2))]
          split
          · simp [shiftAns]
          · simp [shiftAns, Tok.shift]
      · simp [shiftAns]

/-- The lexer on a suffix t that begins at place o. -/
def lexR : Nat → Nat → List Int → List Tok × Int × Int
  | 0, _, _ => ([], 0, 0)
  | k + 1, o, t =>
    if (skipL false t).2 = false then ([], ((o + (skipL false t).1 : Nat) : Int), 20)
    else if t.length ≤ (skipL false t).1 then ([], 0, 0)
    else if (tokS (t.drop (skipL false t).1)).2.1 ≠ 0 then ([], ((o + (skipL false t).1 : Nat) : Int), (tokS (t.drop (skipL false t).1)).2.1)
    else ((tokS (t.drop (skipL false t).1)).1.shift ((o + (skipL false t).1 : Nat) : Int) :: (lexR k (o + (skipL false t).1 + (tokS (t.drop (skipL false t).1)).2.2) ((t.drop (skipL false t).1).drop (tokS (t.drop (skipL false t).1)).2.2)).1,
      (lexR k (o + (skipL false t).1 + (tokS (t.drop (skipL false t).1)).2.2) ((t.drop (skipL false t).1).drop (tokS (t.drop (skipL false t).1)).2.2)).2)
theorem lexFrom_R (l : List Int) : ∀ (k p : Nat) (acc : List Tok), p ≤ l.length → lexFrom l k p acc = (acc ++ (lexR k p (l.drop p)).1, (lexR k p (l.drop p)).2) := by
  intro k
  induction k with
  | zero => intro p acc _; simp [lexFrom, lexR]
  | succ k ih =>
    intro p acc hp
    rw [lexFrom, lexR]
    have hd : l.drop (p + (skipL false (l.drop p)).1) = (l.drop p).drop (skipL false (l.drop p)).1 := by rw [List.drop_drop]
    have hle := skipL_le false (l.drop p)
    rw [List.length_drop] at hle
    by_cases h1 : (skipL false (l.drop p)).2 = false
    · rw [if_pos h1, if_pos h1]; simp
    · rw [if_neg h1, if_neg h1]
      have hiff : (l.length ≤ p + (skipL false (l.drop p)).1) ↔ ((l.drop p).length ≤ (skipL false (l.drop p)).1) := by rw [List.length_drop]; omega
      by_cases h2 : l.length ≤ p + (skipL false (l.drop p)).1
      · rw [if_pos h2, if_pos (hiff.1 h2)]; simp
      · have h3 := fun h => h2 (hiff.2 h)
        rw [if_neg h2, if_neg h3]
        clear hiff h3
        rw [tokAt_drop, hd]
        generalize hS : tokS ((l.drop p).drop (skipL false (l.drop p)).1) = r
        obtain ⟨x, e, n⟩ := r
        by_cases he : e = 0
        · subst he
          have hok := tokAt_ok (l := l) (p := p + (skipL false (l.drop p)).1) (x := x.shift ((p + (skipL false (l.drop p)).1 : Nat) : Int)) (q := p + (skipL false (l.drop p)).1 + n) (by omega) (by rw [tokAt_drop, hd, hS]; simp [shiftAns])
          simp only [shiftAns, if_true, ne_eq, not_true_eq_false, if_false]
          rw [ih _ _ hok.2]
          have hd2 : l.drop (p + (skipL false (l.drop p)).1 + n) = ((l.drop p).drop (skipL false (l.drop p)).1).drop n := by rw [List.drop_drop, List.drop_drop, Nat.add_assoc]
          rw [hd2]
          simp
        · have hf : n = 0 := by
            have := tokAt_fault (l := (l.drop p).drop (skipL false (l.drop p)).1) (p := 0) (q := n) (x := x) (e := e) hS he
            exact this
          subst hf
          simp [shiftAns, he]
/-- Enough rounds: a suffix has no more tokens than bytes. -/
theorem lexR_more (k : Nat) : ∀ (o : Nat) (t : List Int), t.length < k → ∀ j, k ≤ j → lexR j o t = lexR k o t := by
  induction k with
  | zero => intro o t h; omega
  | succ k ih =>
    intro o t hk j hj
    obtain ⟨j, rfl⟩ : ∃ m, j = m + 1 := ⟨j - 1, by omega⟩
    rw [lexR, lexR]
    by_cases h1 : (skipL false t).2 = false
    · rw [if_pos h1, if_pos h1]
    · rw [if_neg h1, if_neg h1]
      by_cases h2 : t.length ≤ (skipL false t).1
      · rw [if_pos h2, if_pos h2]
      · rw [if_neg h2, if_neg h2]
        generalize hS : tokS (t.drop (skipL false t).1) = r
        obtain ⟨x, e, n⟩ := r
        by_cases he : e = 0
        · subst he
          have hok := tokAt_ok (l := t.drop (skipL false t).1) (p := 0) (x := x) (q := n) (by rw [List.length_drop]; omega) hS
          simp only [ne_eq, not_true_eq_false, if_false]
          rw [ih _ _ (by rw [List.length_drop, List.length_drop]; omega) j (by omega)]
        · simp [he]
def lex (o : Nat) (t : List Int) : List Tok × Int × Int := lexR (t.length + 1) o t
theorem lexAll_lex (l : List Int) : lexAll l = lex 0 l := by
  unfold lexAll lex
  rw [lexFrom_R l _ 0 [] (by omega)]
  simp
end Go.Proofs.Yteenkeccpfgffaa
