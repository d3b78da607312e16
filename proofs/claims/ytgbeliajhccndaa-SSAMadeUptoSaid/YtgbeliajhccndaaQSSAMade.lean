/- SSAMade returns true for every argument of bulk at most 1048576, and what it reads stays as it was. -/
import Derived.Test.YtgbeliajhccndaaRows
import Derived.Test.YtgbeliajhccndaaQAD
import Derived.SizedLaws
import Derived.WalkKit
import Derived.ProofKit
import Derived.OpenShut
import Derived.ShutString
import Derived.ChangeOld
import Derived.Below
import Derived.JoinedCond
import Derived.Deep.CondSized
namespace Go.Proofs.Ytgbeliajhccndaa.sSAMadeUpto
open Go.ChangeShapes Go.WideShapes Go.ChangeAt Go.RowKit
open Go.Proofs.YtgbeliajhccndaaW.PrintWords
set_option linter.unusedVariables false
set_option linter.unusedSimpArgs false
theorem own : ownKnob Try.prog.godebug = none := by kernel_rfl
theorem laidOut : laidOutB Try.prog = true := by kernel_rfl
set_option maxRecDepth 100000 in
theorem lifted (os : Os) (started : os.Started) (H : Type) (enc : TypeId × Value → H) (F0 : Stop.Interp) :
    ReturnsInHanded {} Try.checked os 6 .any ((Rows.OpenSpec.upto Rows.sSAMadeSpec).pre6 enc Try.prog Try.f6 Rows.sSAMadeUptoRow.domain false) (((Rows.OpenSpec.upto Rows.sSAMadeSpec).at F0).post enc Try.prog Try.f6 false true false false) := by
  refine returnsInHanded_of_cond_sized (C := Try.checked) (s := Rows.OpenSpec.upto Rows.sSAMadeSpec) (k := Rows.uptoSmall) rfl own started (by kernel_rfl) Try.func6
    (OpenSpec.witness (enc := enc) (C := Try.checked) (s := Rows.OpenSpec.upto Rows.sSAMadeSpec) (k := Rows.uptoSmall) rfl false ⟨#[], #[.agg #[.slice none 0 0, .int .i64 0]], []⟩ 8 (by kernel_rfl) (by kernel_rfl) (by kernel_rfl)
      (x := ([.agg [.nil, .lit (.int .i64 0)]], [], [])) (by kernel_rfl) (by kernel_rfl) (by kernel_rfl)) ?_
  intro W base args ds gs before hval0 hW hcnd hk hsz0 _
  have hval : ∀ (j : Nat) t v, Try.f6.params[j]? = some t → args[j]? = some v → Value.okWide Try.prog W .any base t v := hval0
  have hW' := hW
  obtain ⟨p, q, hA0, hV, rfl, hfz, hnd⟩ := hW
  have hA : DataW.TrodAll enc Try.prog W 0 (fun _ => true) true Try.f6.params.toList args.toList ds p := hA0
  rw [Try.params6] at hA hval
  obtain ⟨v0, vs0, d0, ds0, p0, q0, hargs, rfl, rfl, h0, r0⟩ := trodAll_cons hA
  obtain ⟨rfl, rfl, rfl⟩ := trodAll_nil r0
  obtain rfl : args = #[v0] := by cases args; simp_all
  obtain ⟨rfl, rfl⟩ := trodVars_none hV
  have k0 := h0
  have lt0 : ∀ x ∈ p0, x.block < W.heap.size := by obtain ⟨m, hm⟩ := k0; exact DataW.trod_lt m _ _ _ hm
  obtain ⟨cs0, rfl⟩ : ∃ cs, v0 = .agg cs := by have h := hval 0 24 v0 rfl rfl; unfold Value.okWide at h; rw [Try.underlying24] at h; obtain ⟨cs, h, _⟩ := h; exact ⟨cs, h⟩
  obtain ⟨x0, hK0, hm0⟩ : ∃ x, Kd.K k24 W x cs0.toList ∧ mu24 x ≤ Rows.uptoBulk d0 := by
    obtain ⟨fuel, hf⟩ := h0
    exact o24.open_ hf
  have hm0 : mu24 x0 ≤ 1048576 := by
    have hk' : Rows.uptoBulkAll ([d0] ++ []) ≤ 1048576 := of_decide_eq_true hk
    have : Rows.uptoBulkAll ([d0] ++ []) = Rows.uptoBulk d0 + 0 := rfl
    omega
  obtain ⟨ca, cb, hcs, ⟨A0, c0, rfl, hc0, hC0⟩, rfl⟩ := hK0
  obtain rfl : cs0 = #[.slice A0 x0.1.length c0, .int .i64 x0.2] := by cases cs0; simp_all
  clear hA0 hval0
  refine (SSAMade_any x0.1 A0 c0 x0.2 W hC0 hc0 (size_of hm0)).mono fun e W' ⟨he, bel⟩ => ?_
  subst he
  exact ⟨_, rfl, _, _, _, [], _, [], hW', trodAll_mk1 (shut_bool Try.underlying4 _), (trodAll_cons_mk (Below.trod laidOut (by kernel_rfl) (of_decide_eq_true (by kernel_rfl)) k0 bel lt0) trodAll_mk0), rfl, bel.frame _, fun h => by cases h⟩
theorem over : Rows.sSAMadeUptoRow.holds Try.pinned (Rows.OpenSpec.upto Rows.sSAMadeSpec) :=
  OpenClaim.holds_of_cond 6 Try.f6 rfl rfl rfl rfl rfl rfl rfl ⟨rfl, rfl, rfl, rfl, rfl⟩ rfl rfl rfl rfl rfl (by kernel_rfl) Try.func6 (by kernel_rfl)
    (of_decide_eq_true (by kernel_rfl)) (by unfold Func.isWrapper; first | (rw [if_pos (by decide +kernel)]; kernel_rfl) | (rw [if_neg (by decide +kernel)]; exact ⟨rfl, rfl⟩))
    (fun os started H enc _ F0 => lifted os started H enc F0)
theorem proved : Rows.SSAMadeUptoSaid := over
#print axioms proved
end Go.Proofs.Ytgbeliajhccndaa.sSAMadeUpto
namespace Go.Proofs.Ytgbeliajhccndaa
theorem sSAMadeUpto_holds : Rows.SSAMadeUptoSaid := sSAMadeUpto.proved
end Go.Proofs.Ytgbeliajhccndaa
