/- Walks of lex.class, lex.reader.rest (chapter 2). -/
import Derived.Test.YteenkeccpfgffaaProg
import Derived.Below
import Derived.Deep.Draws
import Derived.Deep.AppendLies
import Derived.OwnWalk
import Derived.Laws.BytesArg
import Derived.Laws.MakeOwn
import Derived.Laws.OwnMore
import Derived.Deep.OwnRows
import Derived.Tactics
import Derived.Lib.ConvBytes
import Derived.Laws.Slices
import Derived.WalkKit
import Derived.KernelRfl
import Derived.RowKit3
import Derived.Deep.LoopGhost
import Derived.Deep.QuietTactic
import Derived.BigQuiet
import Derived.WideLaws
import Derived.Deep.DeepCutAuto
import Derived.Deep.RegionHeld3
import Derived.Laws.Rows
import Derived.Lib.Hide
import Derived.Outline
import Derived.Test.YteenkeccpfgffaaWWords
import Derived.Test.YteenkeccpfgffaaWLast
import Derived.Test.YteenkeccpfgffaaWMore
set_option linter.unusedVariables false
set_option linter.unusedSimpArgs false
namespace Go.Proofs.Yteenkeccpfgffaa
open Go.RowKit Go.Proofs.YteenkeccpfgffaaW.PrintWords Go.Proofs.YteenkeccpfgffaaW.PrintLast Go.Proofs.YteenkeccpfgffaaW.PrintMore

theorem ret_int {k : IntKind} {a b : Int} (h : a = b) : Ending.returned (.int k a) = .returned (.int k b) := by rw [h]

def cls (c : Int) : Int :=
  if c = 95 ∨ (97 ≤ c ∧ c ≤ 122) ∨ (65 ≤ c ∧ c ≤ 90) then 3
  else if 48 ≤ c ∧ c ≤ 57 then 2
  else if c = 9 ∨ c = 10 ∨ c = 13 ∨ c = 32 then 1
  else if 32 < c ∧ c < 127 then 4 else 0

set_option maxHeartbeats 1000000 in
theorem class_any (c : Int) (h0 : 0 ≤ c) (h1 : c ≤ 255) (w : World) :
    Calls Try.prog 31 #[.int .u8 c] w fun e w' => e = .returned (.int .i64 (cls c)) ∧ w = w' := by
  go_enter Try.func31, Try.ntmps31
  go_wp2
  all_goals
    go_ret
    refine ⟨ret_int ?_, rfl⟩
    simp only [beq_iff_eq, beq_eq_false_iff_ne, ne_eq] at *
    unfold cls
    first
    | (rw [if_pos (by omega)]; done)
    | (rw [if_neg (by omega), if_pos (by omega)]; done)
    | (rw [if_neg (by omega), if_neg (by omega), if_pos (by omega)]; done)
    | (rw [if_neg (by omega), if_neg (by omega), if_neg (by omega), if_pos (by omega)]; done)
    | (rw [if_neg (by omega), if_neg (by omega), if_neg (by omega), if_neg (by omega)]; done)

theorem info5 : (Try.prog.info? 5).map (fun i => (i.zero, i.size, i.bytes)) = some (some (.int .u8 0), 1, 1) := by kernel_rfl
theorem info5s : ∃ i, Try.prog.info? 5 = some i ∧ i.size = 1 := by
  obtain ⟨i, h, e⟩ := Option.map_eq_some_iff.1 info5
  simp only [Prod.mk.injEq] at e
  exact ⟨i, h, e.2.1⟩

set_option maxHeartbeats 1000000 in
theorem rest_any (B : Nat) (A : Option Addr) (n c p : Nat) (w : World) (h0 : w.cell? ⟨B, 0, none⟩ = some (.slice A n c)) (h1 : w.cell? ⟨B, 1, none⟩ = some (.int .i64 (p : Int))) (hp : p ≤ n) :
    Calls Try.prog 32 #[.pointer (some ⟨B, 0, none⟩)] w fun e w' => ∃ A' : Option Addr, e = .returned (.slice A' (n - p) (c - p)) ∧
      (∀ (w : World) (k : IntKind) (xs : List Int), n ≤ c → ReadsInt w k A n xs → ReadsInt w k A' (n - p) (xs.drop p)) ∧ ∃ nq, w' = w.drewN nq := by
  obtain ⟨i5, hi5, hs5⟩ := info5s
  obtain ⟨A', hcut, hrd⟩ := print_cut (P := Try.prog) 22 5 .i64 Try.underlying22 hi5 hs5 A n c p hp
  have HRD := Lib.hid hrd
  clear hrd
  go_enter Try.func32, Try.ntmps32
  go_wp2
  go_quiet (fail)
  go_wp2
  go_ret
  exact ⟨A', rfl, HRD.out, nq, rfl⟩
end Go.Proofs.Yteenkeccpfgffaa
