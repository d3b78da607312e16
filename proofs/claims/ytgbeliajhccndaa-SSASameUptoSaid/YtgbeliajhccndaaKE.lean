/- Lemmas of this claim (PU). -/
import Derived.Test.YtgbeliajhccndaaKD
set_option linter.unusedVariables false
namespace Go.Proofs.Ytgbeliajhccndaa.PP
open Go.RowKit Go.Proofs.YtgbeliajhccndaaW.PrintWords
def bl (i n:Nat):Array Bool:=(List.replicate i true ++ List.replicate (n - i) false).toArray
theorem cellA {w W:World} {a:Addr} {v:Value} (HB:Aside0 (Below w.heap.size w W)) (h:w.cell? a = some v):W.cell? a = some v:=(HB.out.cell (World.block_lt_of_cell? w _ h)).trans h
end Go.Proofs.Ytgbeliajhccndaa.PP
