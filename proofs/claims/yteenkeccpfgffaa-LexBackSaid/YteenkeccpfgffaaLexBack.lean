/- The law LexBack: its row, out of the walk. -/
import Derived.Test.YteenkeccpfgffaaRows
import Derived.Test.YteenkeccpfgffaaBO
import Derived.Test.YteenkeccpfgffaaOP
import Derived.SizedLaws
import Derived.WalkKit
import Derived.ProofKit
import Derived.OpenShut
import Derived.ShutString
import Derived.ChangeOld
import Derived.Below
namespace Go.Proofs.Yteenkeccpfgffaa.lexBack
open Go.ChangeShapes Go.WideShapes Go.ChangeAt Go.RowKit
open Go.Proofs.YteenkeccpfgffaaW.PrintWords
open Go.ChangeMaps (open_string shut_string)
set_option linter.unusedVariables false

theorem own : ownKnob Try.prog.godebug = none := by kernel_rfl
theorem laidOut : laidOutB Try.prog = true := by kernel_rfl
theorem oInt : Opens Try.prog 3 (Kd.int .i64) (fun n => (Lit.int .i64 n).wf = true) := Opens.int Try.underlying3 (by kernel_rfl)
theorem oPc : Opens Try.prog 39 kPc (fun p => (Lit.int .i64 p.kd).wf = true ∧ (Lit.int .i64 p.num).wf = true ∧ (Lit.int .i64 p.gap).wf = true) :=
  Opens.iso (fun x : Pc => (x.kd, x.num, x.gap)) (fun x => ⟨x.1, x.2.1, x.2.2⟩) (fun _ => rfl) (Opens.struct Try.underlying39 rfl (by kernel_rfl) (OpensF.cons rfl oInt (OpensF.cons rfl oInt (OpensF.last rfl oInt))))
theorem bytes39 : Try.prog.bytesOf 39 = 24 := by kernel_rfl
theorem oRow : Opens Try.prog 36 (Kd.slice 39 kPc) (fun l => l.length * 24 ≤ 140737488351232 ∧ ∀ p ∈ l, (Lit.int .i64 p.kd).wf = true ∧ (Lit.int .i64 p.num).wf = true ∧ (Lit.int .i64 p.gap).wf = true) :=
  Opens.slice Try.underlying36 (by kernel_rfl) bytes39 oPc

set_option maxRecDepth 100000 in
theorem lifted (os : Os) (started : os.Started) (H : Type) (enc : TypeId × Value → H) :
    ReturnsInHanded {} Try.checked os 6 .any (Rows.lexBackSpec.pre6 enc Try.prog Try.f6 Rows.lexBackRow.domain false) (Rows.lexBackSpec.post enc Try.prog Try.f6 false true false false) := by
  refine returnsInHanded_of_change_sized (C := Try.checked) own started (by kernel_rfl) Try.func6
    (ChangeSpec.witness6 (enc := enc) (C := Try.checked) false ⟨#[], #[.slice none 0 0, .int .i64 0], []⟩ 8 (by kernel_rfl) (by kernel_rfl) (by kernel_rfl) (by kernel_rfl)) ?_
  intro W base args ds gs before hval0 hW hcnd hsz0 _
  have hval : ∀ (j : Nat) t v, Try.f6.params[j]? = some t → args[j]? = some v → Value.okWide Try.prog W .any base t v := hval0
  have hW' := hW
  obtain ⟨p, q, hA0, hV, rfl, hfz, hnd⟩ := hW
  have hA : DataW.TrodAll enc Try.prog W 0 (fun _ => true) true Try.f6.params.toList args.toList ds p := hA0
  have hsz : (DataW.weightsEach Try.prog (Try.f6.params.toList ++ Rows.lexBackSpec.plain.varTypes Try.prog) (ds ++ gs)).all (· ≤ reachBytes) = true := hsz0
  rw [Try.params6] at hA hval hsz
  obtain ⟨v0, vs0, d0, ds0, p0, q0, hargs, rfl, rfl, h0, r0⟩ := trodAll_cons hA
  obtain ⟨v1, vs1, d1, ds1, p1, q1, rfl, rfl, rfl, h1, r1⟩ := trodAll_cons r0
  obtain ⟨rfl, rfl, rfl⟩ := trodAll_nil r1
  obtain rfl : args = #[v0, v1] := by cases args; simp_all
  obtain ⟨rfl, rfl⟩ := trodVars_none hV
  obtain ⟨a0, len0, cap0, rfl⟩ := okWide_slice Try.underlying36 (hval 0 36 v0 rfl rfl)
  have k0 := h0
  have lt0 : ∀ x ∈ p0, x.block < W.heap.size := by obtain ⟨m, hm⟩ := k0; exact DataW.trod_lt m _ _ _ hm
  obtain ⟨l0, hc0, hC0, hG0⟩ : ∃ l, len0 ≤ cap0 ∧ kPc.C W a0 len0 l ∧ ∀ p ∈ l, (Lit.int .i64 p.kd).wf = true ∧ (Lit.int .i64 p.num).wf = true ∧ (Lit.int .i64 p.gap).wf = true := by
    obtain ⟨fuel, hf⟩ := h0
    obtain ⟨l, ⟨A, c, hcs, hl, hC⟩, hG⟩ := oRow.open_ hf (fun n hn => by simpa using List.all_eq_true.1 hsz n (DataW.weights_mem_each (j := 0) (t := 36) rfl rfl n hn))
    simp [Value.cells] at hcs
    obtain ⟨rfl, rfl, rfl⟩ := hcs
    exact ⟨l, hl, hC, hG.2⟩
  obtain ⟨a1, rfl, rfl, rfl, w1⟩ := open_int Try.underlying3 (hval 1 3 v1 rfl rfl) h1
  clear hA0 hval0
  refine (lexBack_any a0 len0 cap0 l0 a1 W hc0 hC0 (fun p hp => bounds_i64 (hG0 p hp).2.1)).mono fun e W' ⟨he, bel⟩ => ?_
  subst he
  exact ⟨_, rfl, _, _, _, [], _, [], hW', trodAll_mk1 (shut_bool Try.underlying4 _), (trodAll_cons_mk (Below.trod laidOut (by kernel_rfl) (of_decide_eq_true (by kernel_rfl)) k0 bel lt0) (trodAll_cons_mk (shut_int Try.underlying3 w1) trodAll_mk0)), rfl, bel.frame _, fun h => by cases h⟩

theorem over : Rows.lexBackRow.holds Try.pinned (OpenSpec.ofChange Rows.lexBackSpec) :=
  OpenClaim.holds_of_wide 6 Try.f6 rfl rfl rfl rfl rfl rfl rfl ⟨rfl, rfl, rfl, rfl, rfl⟩ rfl rfl rfl rfl rfl (by kernel_rfl) Try.func6 (by kernel_rfl)
    (of_decide_eq_true (by kernel_rfl)) (by unfold Func.isWrapper; first | (rw [if_pos (by decide +kernel)]; kernel_rfl) | (rw [if_neg (by decide +kernel)]; exact ⟨rfl, rfl⟩))
    (fun os started H enc _ => lifted os started H enc)

theorem proved : Rows.LexBackSaid := over
#print axioms proved
end Go.Proofs.Yteenkeccpfgffaa.lexBack
namespace Go.Proofs.Yteenkeccpfgffaa
/-- The row, under a short name, for the claim. -/
theorem lexBack_holds : Rows.LexBackSaid := lexBack.proved
end Go.Proofs.Yteenkeccpfgffaa
