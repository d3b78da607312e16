/- Walks of lex.word, two, one (chapter 2). -/
import Derived.Test.YteenkeccpfgffaaC
set_option linter.unusedVariables false
set_option linter.unusedSimpArgs false
namespace Go.Proofs.Yteenkeccpfgffaa
open Go.RowKit Go.Proofs.YteenkeccpfgffaaW.PrintWords Go.Proofs.YteenkeccpfgffaaW.PrintLast Go.Proofs.YteenkeccpfgffaaW.PrintMore

def twoL : List (List UInt8 × Int) := [([61, 61], 49), ([33, 61], 50), ([60, 61], 52), ([62, 61], 54), ([38, 94], 63), ([60, 60], 64), ([62, 62], 65), ([38, 38], 66), ([124, 124], 67)]
def twoFrom (s : List UInt8) : List (List UInt8 × Int) → Int
  | [] => 0
  | (x, k) :: r => if s = x then k else twoFrom s r
def twoK (s : ByteArray) : Int := twoFrom s.data.toList twoL
set_option maxHeartbeats 1000000 in
theorem two_any (s : ByteArray) (w : World) :
    Calls Try.prog 44 #[.string s] w fun e w' => e = .returned (.int .i64 (twoK s)) ∧ w = w' := by
  go_enter Try.func44, Try.ntmps44
  go_wp2
  all_goals
    go_ret
    refine ⟨ret_int ?_, rfl⟩
    simp only [beq_iff_eq, beq_eq_false_iff_ne, ne_eq, ByteArray.toList_eq] at *
    simp only [twoK, twoL, twoFrom]
    simp only [*, if_true, if_false, reduceCtorEq, List.cons.injEq, not_false_eq_true, not_true_eq_false]
    try rfl
theorem run_index_agg {P : Program} {w : World} (t e : TypeId) (n : Nat) (cs : Array Value) (k : IntKind) (i : Nat) (v : Value) {d : TypeDesc} (h : P.underlying t = some (.array n e)) (he : P.underlying e = some d) (hd : (match d with | .struct _ | .array _ _ => true | _ => false) = false)
    (hi : (P.info? e).map (·.size) = some 1) (hlt : i < n) (hv : cs[i]? = some v) :
    (Instr.index t (.agg cs) (.int k (i : Int))).run P w = .ok v w := by
  obtain ⟨i0, hi0, hs0⟩ := Option.map_eq_some_iff.1 hi
  have h1 : (0 : Int) ≤ (i : Int) ∧ (i : Int) < (n : Int) := by omega
  have h3 : (0 : Int) ≤ (i : Int) := by omega
  have hA : (isAgg e).run P w = .ok false w := by
    simp [isAgg, run_underlying he, go_sem]
    cases d <;> simp_all
  simp [Instr.index, run_underlying h, asIntOf, hlt, h3, part, sizeOf, typeInfo, hi0, hs0, hA, hv, go_sem]
end Go.Proofs.Yteenkeccpfgffaa
