/- Lemmas of this claim (TI). -/
import Derived.Test.YtgbeliajhccndaaKT
set_option linter.unusedVariables false
set_option linter.unusedSimpArgs false
namespace Go.Proofs.Ytgbeliajhccndaa.PP
open Go.RowKit Go.Proofs.YtgbeliajhccndaaW.PrintWords Go.Proofs.YtgbeliajhccndaaW.PrintLast Go.Proofs.YtgbeliajhccndaaW.PrintMore
def fitF (f:S38):Bool:=decide (f.f0.size ≤ 3000000000000) && decide (f.f4.length ≤ 400000)
def ssa_Check.f (l0_0:List (S38)) (a0_1:Int):Option (Int):=if l0_0.all fitF = true then some (checkE l0_0 a0_1) else none
theorem ssa_Check.calls (A0_0:Option Addr) (c0_0:Nat) (l0_0:List (S38)) (a0_1:Int) (r:Int) (w:World) (hr0_0:Kd.C k38 w A0_0 l0_0.length l0_0) (hc0_0:l0_0.length ≤ c0_0) (h:ssa_Check.f l0_0 a0_1 = some r) :
 Calls Try.prog 12 #[.agg #[.slice A0_0 l0_0.length c0_0,.int .i64 a0_1]] w fun e w'=>e = .returned (.int .i64 r) ∧ Below w.heap.size w w':=by
 unfold ssa_Check.f at h
 split at h
 ·rename_i hf
  injection h with h
  subst h
  refine Check_ok l0_0 a0_1 A0_0 c0_0 w hr0_0 hc0_0 (fun f hff=>?_)
  have:=List.all_eq_true.1 hf f hff
  unfold fitF at this
  simpa using this
 ·cases h
end Go.Proofs.Ytgbeliajhccndaa.PP
