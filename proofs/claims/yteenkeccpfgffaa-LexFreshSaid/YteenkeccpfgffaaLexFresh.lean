/- The law LexFresh: its row, out of the walk (printed by genrow.py, mine). -/
import Derived.Test.YteenkeccpfgffaaRows
import Derived.Test.YteenkeccpfgffaaCF
import Derived.Test.YteenkeccpfgffaaOP
import Derived.SizedLaws
import Derived.WalkKit
import Derived.ProofKit
import Derived.OpenShut
import Derived.ShutString
import Derived.ChangeOld
import Derived.Below
namespace Go.Proofs.Yteenkeccpfgffaa.lexFresh
open Go.ChangeShapes Go.WideShapes Go.ChangeAt Go.RowKit
open Go.Proofs.YteenkeccpfgffaaW.PrintWords
open Go.ChangeMaps (open_string shut_string)
set_option linter.unusedVariables false
set_option linter.unusedSimpArgs false

theorem own : ownKnob Try.prog.godebug = none := by kernel_rfl
theorem laidOut : laidOutB Try.prog = true := by kernel_rfl
theorem oByte : Opens Try.prog 5 (Kd.int .u8) (fun n => (Lit.int .u8 n).wf = true) := Opens.int Try.underlying5 (by kernel_rfl)
theorem oText : Opens Try.prog 22 kTx (fun t => t.length * 1 ≤ 140737488351232 ∧ ∀ x ∈ t, (Lit.int .u8 x).wf = true) := Opens.slice Try.underlying22 (by kernel_rfl) (by kernel_rfl) oByte
theorem oRow : Opens Try.prog 25 (Kd.slice 22 kTx) (fun l => l.length * 24 ≤ 140737488351232 ∧ ∀ t ∈ l, t.length * 1 ≤ 140737488351232 ∧ ∀ x ∈ t, (Lit.int .u8 x).wf = true) := Opens.slice Try.underlying25 (by kernel_rfl) (by kernel_rfl) oText
theorem range_of {t : List Int} (h : ∀ x ∈ t, (Lit.int .u8 x).wf = true) : byteRange t := by
  intro i
  unfold rd
  rw [List.getD_eq_getElem?_getD]
  rcases Nat.lt_or_ge i.toNat t.length with h2 | h2
  · rw [List.getElem?_eq_getElem h2]
    exact bounds_u8 (h _ (List.getElem_mem h2))
  · rw [List.getElem?_eq_none h2]
    decide

set_option maxRecDepth 100000 in
theorem lifted (os : Os) (started : os.Started) (H : Type) (enc : TypeId × Value → H) :
    ReturnsInHanded {} Try.checked os 5 .any (Rows.lexFreshSpec.pre6 enc Try.prog Try.f5 Rows.lexFreshRow.domain false) (Rows.lexFreshSpec.post enc Try.prog Try.f5 false true false false) := by
  refine returnsInHanded_of_change_sized (C := Try.checked) own started (by kernel_rfl) Try.func5
    (ChangeSpec.witness6 (enc := enc) (C := Try.checked) false ⟨#[], #[.slice none 0 0], []⟩ 8 (by kernel_rfl) (by kernel_rfl) (by kernel_rfl) (by kernel_rfl)) ?_
  intro W base args ds gs before hval0 hW hcnd hsz0 _
  have hval : ∀ (j : Nat) t v, Try.f5.params[j]? = some t → args[j]? = some v → Value.okWide Try.prog W .any base t v := hval0
  have hW' := hW
  obtain ⟨p, q, hA0, hV, rfl, hfz, hnd⟩ := hW
  have hA : DataW.TrodAll enc Try.prog W 0 (fun _ => true) true Try.f5.params.toList args.toList ds p := hA0
  have hsz : (DataW.weightsEach Try.prog (Try.f5.params.toList ++ Rows.lexFreshSpec.plain.varTypes Try.prog) (ds ++ gs)).all (· ≤ reachBytes) = true := hsz0
  rw [Try.params5] at hA hval hsz
  obtain ⟨v0, vs0, d0, ds0, p0, q0, hargs, rfl, rfl, h0, r0⟩ := trodAll_cons hA
  obtain ⟨rfl, rfl, rfl⟩ := trodAll_nil r0
  obtain rfl : args = #[v0] := by cases args; simp_all
  obtain ⟨rfl, rfl⟩ := trodVars_none hV
  obtain ⟨a0, len0, cap0, rfl⟩ := okWide_slice Try.underlying25 (hval 0 25 v0 rfl rfl)
  have k0 := h0
  have lt0 : ∀ x ∈ p0, x.block < W.heap.size := by obtain ⟨m, hm⟩ := k0; exact DataW.trod_lt m _ _ _ hm
  obtain ⟨l0, hc0, hC0, hG0⟩ : ∃ l, len0 ≤ cap0 ∧ Kd.C kTx W a0 len0 l ∧ (fun l => l.length * 24 ≤ 140737488351232 ∧ ∀ t ∈ l, t.length * 1 ≤ 140737488351232 ∧ ∀ x ∈ t, (Lit.int .u8 x).wf = true) l := by
    obtain ⟨fuel, hf⟩ := h0
    obtain ⟨l, ⟨A, c, hcs, hl, hC⟩, hG⟩ := oRow.open_ hf (fun n hn => by simpa using List.all_eq_true.1 hsz n (DataW.weights_mem_each (j := 0) (t := 25) rfl rfl n hn))
    simp [Value.cells] at hcs
    obtain ⟨rfl, rfl, rfl⟩ := hcs
    exact ⟨l, hl, hC, hG⟩
  clear hA0 hval0
  refine (lexFresh_any a0 len0 cap0 l0 W hc0 hC0 (fun t ht => ⟨range_of (hG0.2 t ht).2, by have := (hG0.2 t ht).1; omega⟩)).mono fun e W' ⟨he, bel⟩ => ?_
  subst he
  exact ⟨_, rfl, _, _, _, [], _, [], hW', trodAll_mk1 (shut_bool Try.underlying4 _), (trodAll_cons_mk (Below.trod laidOut (by kernel_rfl) (of_decide_eq_true (by kernel_rfl)) k0 bel lt0) trodAll_mk0), rfl, bel.frame _, fun h => by cases h⟩

theorem over : Rows.lexFreshRow.holds Try.pinned (OpenSpec.ofChange Rows.lexFreshSpec) :=
  OpenClaim.holds_of_wide 5 Try.f5 rfl rfl rfl rfl rfl rfl rfl ⟨rfl, rfl, rfl, rfl, rfl⟩ rfl rfl rfl rfl rfl (by kernel_rfl) Try.func5 (by kernel_rfl)
    (of_decide_eq_true (by kernel_rfl)) (by unfold Func.isWrapper; first | (rw [if_pos (by decide +kernel)]; kernel_rfl) | (rw [if_neg (by decide +kernel)]; exact ⟨rfl, rfl⟩))
    (fun os started H enc _ => lifted os started H enc)

theorem proved : Rows.LexFreshSaid := over
#print axioms proved
end Go.Proofs.Yteenkeccpfgffaa.lexFresh
namespace Go.Proofs.Yteenkeccpfgffaa
/-- The row, under a short name, for the claim. -/
theorem lexFresh_holds : Rows.LexFreshSaid := lexFresh.proved
end Go.Proofs.Yteenkeccpfgffaa
