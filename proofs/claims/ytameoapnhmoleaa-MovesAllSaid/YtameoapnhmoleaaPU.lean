/- Words for printed texts made shorter by squeeze.py. -/
import Derived.Test.YtameoapnhmoleaaPP0
set_option linter.unusedVariables false
namespace Go.Proofs.Ytameoapnhmoleaa.PP
open Go.RowKit Go.Proofs.YtameoapnhmoleaaW.PrintWords
/-- i trues, then falses: n in all. -/
def bl (i n : Nat) : Array Bool := (List.replicate i true ++ List.replicate (n - i) false).toArray
theorem cellA {w W : World} {a : Addr} {v : Value} (HB : Aside0 (Below w.heap.size w W)) (h : w.cell? a = some v) : W.cell? a = some v := (HB.out.cell (World.block_lt_of_cell? w _ h)).trans h
theorem info36p : (Try.prog.info? 36).map (fun i => (i.zero, i.size, i.bytes)) = some (some (.agg #[(.int .i64 0), (.int .i64 0), (.int .i64 0), (.int .i64 0)]), 4, 32) := by kernel_rfl
end Go.Proofs.Ytameoapnhmoleaa.PP
