/- Lemmas of this claim (WA, WB, WC, WD). -/
import Derived.Test.YtgbeliajhccndaaRM
import Derived.Test.YtgbeliajhccndaaRV
import Derived.Test.YtgbeliajhccndaaRY
import Derived.Deep.RegionHeld3
section
set_option linter.unusedVariables false
set_option linter.unusedSimpArgs false
namespace Go.Proofs.Ytgbeliajhccndaa
open Go.RowKit Go.Proofs.YtgbeliajhccndaaW.PrintWords Go.Proofs.YtgbeliajhccndaaW.PrintLast Go.Proofs.YtgbeliajhccndaaW.PrintMore PP
section
variable {w W W' : World} {gF gp gt : Nat} {fc : Array Value} {n cp ct : Nat} {s : Tri}
end
end Go.Proofs.Ytgbeliajhccndaa
end
section
set_option linter.unusedVariables false
set_option linter.unusedSimpArgs false
namespace Go.Proofs.Ytgbeliajhccndaa
open Go.RowKit Go.Proofs.YtgbeliajhccndaaW.PrintWords Go.Proofs.YtgbeliajhccndaaW.PrintLast Go.Proofs.YtgbeliajhccndaaW.PrintMore PP
end Go.Proofs.Ytgbeliajhccndaa
end
section
set_option linter.unusedVariables false
set_option linter.unusedSimpArgs false
namespace Go.Proofs.Ytgbeliajhccndaa
open Go.RowKit Go.Proofs.YtgbeliajhccndaaW.PrintWords Go.Proofs.YtgbeliajhccndaaW.PrintLast Go.Proofs.YtgbeliajhccndaaW.PrintMore PP
theorem wrap_nat (i : Nat) (h : i < 4611686018427387904) : wrap64 ((i : Int) + 1) = ((i + 1 : Nat) : Int) := by
  unfold wrap64
  omega
section
variable {f : S38} {to_ out : Int} {b : Bool}
end
end Go.Proofs.Ytgbeliajhccndaa
end
section
set_option linter.unusedVariables false
set_option linter.unusedSimpArgs false
namespace Go.Proofs.Ytgbeliajhccndaa
open Go.RowKit Go.Proofs.YtgbeliajhccndaaW.PrintWords Go.Proofs.YtgbeliajhccndaaW.PrintLast Go.Proofs.YtgbeliajhccndaaW.PrintMore PP
end Go.Proofs.Ytgbeliajhccndaa
end
