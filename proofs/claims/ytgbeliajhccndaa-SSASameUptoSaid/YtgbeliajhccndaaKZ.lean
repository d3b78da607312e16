/- Lemmas of this claim (TJ). -/
import Derived.Test.YtgbeliajhccndaaKY
set_option linter.unusedVariables false
set_option linter.unusedSimpArgs false
namespace Go.Proofs.Ytgbeliajhccndaa
open Go.RowKit Go.Proofs.YtgbeliajhccndaaW.PrintWords Go.Proofs.YtgbeliajhccndaaW.PrintLast Go.Proofs.YtgbeliajhccndaaW.PrintMore PP
theorem alive_f:quernlaw9_alive.f = some true:=by decide +kernel
theorem alive_any (w:World):Calls Try.prog 9 #[] w fun e w'=>e = .returned (.bool true) ∧ Below w.heap.size w w':=quernlaw9_alive.calls true w alive_f
end Go.Proofs.Ytgbeliajhccndaa
