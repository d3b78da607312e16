/- The longest sign at a place: the reference's search and the program's two steps agree (chapter 2; plain). -/
import Derived.Test.YteenkeccpfgffaaS
set_option linter.unusedVariables false
set_option linter.unusedSimpArgs false
namespace Go.Proofs.Yteenkeccpfgffaa
open Go.RowKit Go.Proofs.YteenkeccpfgffaaW.PrintWords Go.Proofs.YteenkeccpfgffaaW.PrintLast Go.Proofs.YteenkeccpfgffaaW.PrintMore

def signI : List (List Int) := [[40], [41], [123], [125], [91], [93], [44], [59], [61], [61, 61], [33, 61], [60], [60, 61], [62], [62, 61], [43], [45], [42], [47], [37], [38], [124], [94], [38, 94], [60, 60], [62, 62], [38, 38], [124, 124], [33]]
def bestI (t : List Int) : List (List Int) → Nat → Nat → Int → Nat × Int
  | [], _, b, kd => (b, kd)
  | s :: r, k, b, kd => if b < s.length ∧ t.take s.length = s then bestI t r (k + 1) s.length (40 + k) else bestI t r (k + 1) b kd
def twoI (c d : Int) : Int :=
  if c = 61 ∧ d = 61 then 49 else if c = 33 ∧ d = 61 then 50 else if c = 60 ∧ d = 61 then 52 else if c = 62 ∧ d = 61 then 54 else if c = 38 ∧ d = 94 then 63
  else if c = 60 ∧ d = 60 then 64 else if c = 62 ∧ d = 62 then 65 else if c = 38 ∧ d = 38 then 66 else if c = 124 ∧ d = 124 then 67 else 0
def oneI (c : Int) : Int :=
  if c = 40 then 40 else if c = 41 then 41 else if c = 123 then 42 else if c = 125 then 43 else if c = 91 then 44 else if c = 93 then 45 else if c = 44 then 46 else if c = 59 then 47 else if c = 61 then 48 else if c = 33 then 68
  else if c = 60 then 51 else if c = 62 then 53 else if c = 43 then 55 else if c = 45 then 56 else if c = 42 then 57 else if c = 47 then 58 else if c = 37 then 59 else if c = 38 then 60 else if c = 124 then 61 else if c = 94 then 62 else 0
theorem oneK_eq (c : Int) : oneK c = oneI c := by
  simp only [oneK, signsL, kindsL, List.zip_cons_cons, List.zip_nil_right, oneFrom, oneI]
  simp only [eq_comm (b := c)]
  rfl
theorem best_two (c d : Int) (r : List Int) : bestI (c :: d :: r) signI 0 0 0 = if twoI c d ≠ 0 then (2, twoI c d) else if oneI c ≠ 0 then (1, oneI c) else (0, 0) := by
  by_cases h0 : c ∈ [40, 41, 123, 125, 91, 93, 44, 59, 61, 33, 60, 62, 43, 45, 42, 47, 37, 38, 124, 94]
  · simp only [List.mem_cons, List.not_mem_nil, or_false] at h0
    rcases h0 with rfl | rfl | rfl | rfl | rfl | rfl | rfl | rfl | rfl | rfl | rfl | rfl | rfl | rfl | rfl | rfl | rfl | rfl | rfl | rfl
    all_goals
      simp [bestI, signI, twoI, oneI]
      try (repeat' split)
      all_goals first | rfl | omega | (simp_all; done) | skip
  · simp only [List.mem_cons, List.not_mem_nil, or_false, not_or] at h0
    simp [bestI, signI, twoI, oneI, h0]
theorem best_one (c : Int) : bestI [c] signI 0 0 0 = if oneI c ≠ 0 then (1, oneI c) else (0, 0) := by
  by_cases h0 : c ∈ [40, 41, 123, 125, 91, 93, 44, 59, 61, 33, 60, 62, 43, 45, 42, 47, 37, 38, 124, 94]
  · simp only [List.mem_cons, List.not_mem_nil, or_false] at h0
    rcases h0 with rfl | rfl | rfl | rfl | rfl | rfl | rfl | rfl | rfl | rfl | rfl | rfl | rfl | rfl | rfl | rfl | rfl | rfl | rfl | rfl
    all_goals rfl
  · simp only [List.mem_cons, List.not_mem_nil, or_false, not_or] at h0
    simp [bestI, signI, oneI, h0]
end Go.Proofs.Yteenkeccpfgffaa
