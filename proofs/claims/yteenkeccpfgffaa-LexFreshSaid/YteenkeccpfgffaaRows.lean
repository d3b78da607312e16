/-
  No cell of these rows narrows 'for every input' (looked for: loops, veiled, ifaces, maps, wideKeys, modest, calm, conditions, laid).
  DERIVED. THE GIVEN ROWS OF THIS SEAT. 8 by the template 'for every input the law returns true; each argument reads behind the call as it read before'; 0 by the template 'total and deterministic' (their statements: YteenkeccpfgffaaTotals.lean).
  GIVEN WITH THE SEED: the statements are not yours to turn. If you find one false, say at which input.
  Laid BY PROGRAM, IN A SANDBOX (cutbox-rows.mjs): the forced cells as the released guide's own fill.sh prints them over the translation c309d43766bdfba7… (all of the seat's roots in one cut). By AI agents, Wed Nov 11 2026. No macro, syntax, notation, axiom, sorry.
-/
import Derived.Test.YteenkeccpfgffaaChecked
import GoSem.Claim
import GoSem.ClaimJoined
import GoSem.ClaimMapViews
import Derived.JoinedTies
import Derived.KernelRfl
namespace Go.Proofs.Yteenkeccpfgffaa
/- THE CELL 'sum', in the pinned program and in every row, IS THE sha256 OF THE DUMP (.gsa) THAT YteenkeccpfgffaaProg.lean LOADS. Nothing in Lean hashes anything: it is a label: what it is worth is what the hold of that sum in a sandbox is worth. -/
noncomputable def Try.pinned : Pinned := { name := "yteenkeccpfgffaa", sum := "c309d43766bdfba715777e53572b47307bfbaaca5bd1a27226ac7a5565343b52", checked := Try.checked }
namespace Rows
def none {H : Type} : Left H := { results := [], args := [] }

/-- 'quernlaw2.LexTokens': WHATEVER THE INPUT: true; the input reads as it did. -/
def lexTokensSpec : ChangeSpec := { name := "lexTokens", fn := fun _ => fun
  | [d] => { results := [.lit (.bool true)], args := [d] }
  | _ => none }
def lexTokensRow : OpenClaim := { program := "yteenkeccpfgffaa", sum := "c309d43766bdfba715777e53572b47307bfbaaca5bd1a27226ac7a5565343b52", func := "quern/quernlaw2.LexTokens", spec := "lexTokens", apart := false }
def LexTokensSaid : Prop := lexTokensRow.holds Try.pinned (OpenSpec.ofChange lexTokensSpec)

/-- ITS FALSE NEIGHBOUR: 'it returns false'. Refute it at one input. -/
def lexTokensWrong : ChangeSpec := { name := "lexTokens", fn := fun _ => fun
  | [d] => { results := [.lit (.bool false)], args := [d] }
  | _ => none }
def LexTokensWrongFalsely : Prop := lexTokensRow.holds Try.pinned (OpenSpec.ofChange lexTokensWrong)

/-- 'quernlaw2.LexAll': WHATEVER THE INPUT: true; the input reads as it did. -/
def lexAllSpec : ChangeSpec := { name := "lexAll", fn := fun _ => fun
  | [d] => { results := [.lit (.bool true)], args := [d] }
  | _ => none }
def lexAllRow : OpenClaim := { program := "yteenkeccpfgffaa", sum := "c309d43766bdfba715777e53572b47307bfbaaca5bd1a27226ac7a5565343b52", func := "quern/quernlaw2.LexAll", spec := "lexAll", apart := false }
def LexAllSaid : Prop := lexAllRow.holds Try.pinned (OpenSpec.ofChange lexAllSpec)

/-- ITS FALSE NEIGHBOUR: 'it returns false'. Refute it at one input. -/
def lexAllWrong : ChangeSpec := { name := "lexAll", fn := fun _ => fun
  | [d] => { results := [.lit (.bool false)], args := [d] }
  | _ => none }
def LexAllWrongFalsely : Prop := lexAllRow.holds Try.pinned (OpenSpec.ofChange lexAllWrong)

/-- 'quernlaw2.LexFresh': WHATEVER THE INPUT: true; the input reads as it did. -/
def lexFreshSpec : ChangeSpec := { name := "lexFresh", fn := fun _ => fun
  | [d] => { results := [.lit (.bool true)], args := [d] }
  | _ => none }
def lexFreshRow : OpenClaim := { program := "yteenkeccpfgffaa", sum := "c309d43766bdfba715777e53572b47307bfbaaca5bd1a27226ac7a5565343b52", func := "quern/quernlaw2.LexFresh", spec := "lexFresh", apart := false }
def LexFreshSaid : Prop := lexFreshRow.holds Try.pinned (OpenSpec.ofChange lexFreshSpec)

/-- ITS FALSE NEIGHBOUR: 'it returns false'. Refute it at one input. -/
def lexFreshWrong : ChangeSpec := { name := "lexFresh", fn := fun _ => fun
  | [d] => { results := [.lit (.bool false)], args := [d] }
  | _ => none }
def LexFreshWrongFalsely : Prop := lexFreshRow.holds Try.pinned (OpenSpec.ofChange lexFreshWrong)

/-- 'quernlaw2.LexBack': WHATEVER THE INPUT: true; the input reads as it did. -/
def lexBackSpec : ChangeSpec := { name := "lexBack", fn := fun _ => fun
  | [d1, d2] => { results := [.lit (.bool true)], args := [d1, d2] }
  | _ => none }
def lexBackRow : OpenClaim := { program := "yteenkeccpfgffaa", sum := "c309d43766bdfba715777e53572b47307bfbaaca5bd1a27226ac7a5565343b52", func := "quern/quernlaw2.LexBack", spec := "lexBack", apart := false }
def LexBackSaid : Prop := lexBackRow.holds Try.pinned (OpenSpec.ofChange lexBackSpec)

/-- ITS FALSE NEIGHBOUR: 'it returns false'. Refute it at one input. -/
def lexBackWrong : ChangeSpec := { name := "lexBack", fn := fun _ => fun
  | [d1, d2] => { results := [.lit (.bool false)], args := [d1, d2] }
  | _ => none }
def LexBackWrongFalsely : Prop := lexBackRow.holds Try.pinned (OpenSpec.ofChange lexBackWrong)

/-- 'quernlaw2.LexPlaces': WHATEVER THE INPUT: true; the input reads as it did. -/
def lexPlacesSpec : ChangeSpec := { name := "lexPlaces", fn := fun _ => fun
  | [d] => { results := [.lit (.bool true)], args := [d] }
  | _ => none }
def lexPlacesRow : OpenClaim := { program := "yteenkeccpfgffaa", sum := "c309d43766bdfba715777e53572b47307bfbaaca5bd1a27226ac7a5565343b52", func := "quern/quernlaw2.LexPlaces", spec := "lexPlaces", apart := false }
def LexPlacesSaid : Prop := lexPlacesRow.holds Try.pinned (OpenSpec.ofChange lexPlacesSpec)

/-- ITS FALSE NEIGHBOUR: 'it returns false'. Refute it at one input. -/
def lexPlacesWrong : ChangeSpec := { name := "lexPlaces", fn := fun _ => fun
  | [d] => { results := [.lit (.bool false)], args := [d] }
  | _ => none }
def LexPlacesWrongFalsely : Prop := lexPlacesRow.holds Try.pinned (OpenSpec.ofChange lexPlacesWrong)

/-- 'quernlaw2.LexAhead': WHATEVER THE INPUT: true; the input reads as it did. -/
def lexAheadSpec : ChangeSpec := { name := "lexAhead", fn := fun _ => fun
  | [d1, d2] => { results := [.lit (.bool true)], args := [d1, d2] }
  | _ => none }
def lexAheadRow : OpenClaim := { program := "yteenkeccpfgffaa", sum := "c309d43766bdfba715777e53572b47307bfbaaca5bd1a27226ac7a5565343b52", func := "quern/quernlaw2.LexAhead", spec := "lexAhead", apart := false }
def LexAheadSaid : Prop := lexAheadRow.holds Try.pinned (OpenSpec.ofChange lexAheadSpec)

/-- ITS FALSE NEIGHBOUR: 'it returns false'. Refute it at one input. -/
def lexAheadWrong : ChangeSpec := { name := "lexAhead", fn := fun _ => fun
  | [d1, d2] => { results := [.lit (.bool false)], args := [d1, d2] }
  | _ => none }
def LexAheadWrongFalsely : Prop := lexAheadRow.holds Try.pinned (OpenSpec.ofChange lexAheadWrong)

/-- 'quernlaw2.LexBlanks': WHATEVER THE INPUT: true; the input reads as it did. -/
def lexBlanksSpec : ChangeSpec := { name := "lexBlanks", fn := fun _ => fun
  | [d1, d2, d3] => { results := [.lit (.bool true)], args := [d1, d2, d3] }
  | _ => none }
def lexBlanksRow : OpenClaim := { program := "yteenkeccpfgffaa", sum := "c309d43766bdfba715777e53572b47307bfbaaca5bd1a27226ac7a5565343b52", func := "quern/quernlaw2.LexBlanks", spec := "lexBlanks", apart := false }
def LexBlanksSaid : Prop := lexBlanksRow.holds Try.pinned (OpenSpec.ofChange lexBlanksSpec)

/-- ITS FALSE NEIGHBOUR: 'it returns false'. Refute it at one input. -/
def lexBlanksWrong : ChangeSpec := { name := "lexBlanks", fn := fun _ => fun
  | [d1, d2, d3] => { results := [.lit (.bool false)], args := [d1, d2, d3] }
  | _ => none }
def LexBlanksWrongFalsely : Prop := lexBlanksRow.holds Try.pinned (OpenSpec.ofChange lexBlanksWrong)

/-- 'quernlaw2.LexRows': WHATEVER THE INPUT: true; the input reads as it did. -/
def lexRowsSpec : ChangeSpec := { name := "lexRows", fn := fun _ => fun
  | [d1, d2, d3, d4] => { results := [.lit (.bool true)], args := [d1, d2, d3, d4] }
  | _ => none }
def lexRowsRow : OpenClaim := { program := "yteenkeccpfgffaa", sum := "c309d43766bdfba715777e53572b47307bfbaaca5bd1a27226ac7a5565343b52", func := "quern/quernlaw2.LexRows", spec := "lexRows", apart := false }
def LexRowsSaid : Prop := lexRowsRow.holds Try.pinned (OpenSpec.ofChange lexRowsSpec)

/-- ITS FALSE NEIGHBOUR: 'it returns false'. Refute it at one input. -/
def lexRowsWrong : ChangeSpec := { name := "lexRows", fn := fun _ => fun
  | [d1, d2, d3, d4] => { results := [.lit (.bool false)], args := [d1, d2, d3, d4] }
  | _ => none }
def LexRowsWrongFalsely : Prop := lexRowsRow.holds Try.pinned (OpenSpec.ofChange lexRowsWrong)

/- THE SECOND FORM. 'bulk': how many values and letters a reading holds, each counted each time it is reached (what is shared counts as often as it is met; a slice's spare places count too). A statement '..UptoSaid' is the law's where the arguments, and the package variables that the reading takes, are together of bulk at most 1048576: NARROWER than '..Said'. Prove '..Said' where nothing that the law and all that it calls make is longer than what came in: it says more and counts as full. Else prove '..UptoSaid'. A law counts once. -/
mutual
def uptoBulk {H : Type} : DataW H → Nat
  | .lit (.string bytes) => bytes.length + 1
  | .lit _ => 1
  | .nil => 1
  | .ptr d => uptoBulk d + 1
  | .slice elems spare => uptoBulkAll elems + uptoBulkAll spare + 1
  | .agg parts => uptoBulkAll parts + 1
  | .iface _ d => uptoBulk d + 1
  | .map entries => uptoBulkEntries entries + 1
  | .held _ => 1
def uptoBulkAll {H : Type} : List (DataW H) → Nat
  | [] => 0
  | d :: r => uptoBulk d + uptoBulkAll r
def uptoBulkEntries {H : Type} : List (Lit × DataW H) → Nat
  | [] => 0
  | x :: r => uptoBulkEntry x + uptoBulkEntries r
def uptoBulkEntry {H : Type} : Lit × DataW H → Nat
  | (.string bytes, d) => bytes.length + uptoBulk d + 1
  | (_, d) => uptoBulk d + 1
 end
def uptoSmall : (H : Type) → List (DataW H) → Bool := fun _ ds => decide (uptoBulkAll ds ≤ 1048576)
def OpenSpec.upto (s : _root_.Go.ChangeSpec) : _root_.Go.OpenSpec := { _root_.Go.OpenSpec.ofChange s with cond := some uptoSmall }

/-- 'quernlaw2.LexTokens', WHERE WHAT IT READS IS OF BULK AT MOST 1048576: true; the input reads as it did. -/
def lexTokensUptoRow : OpenClaim := { program := "yteenkeccpfgffaa", sum := "c309d43766bdfba715777e53572b47307bfbaaca5bd1a27226ac7a5565343b52", func := "quern/quernlaw2.LexTokens", spec := "lexTokens", apart := false, narrowed := true }
def LexTokensUptoSaid : Prop := lexTokensUptoRow.holds Try.pinned (OpenSpec.upto lexTokensSpec)

/-- 'quernlaw2.LexAll', WHERE WHAT IT READS IS OF BULK AT MOST 1048576: true; the input reads as it did. -/
def lexAllUptoRow : OpenClaim := { program := "yteenkeccpfgffaa", sum := "c309d43766bdfba715777e53572b47307bfbaaca5bd1a27226ac7a5565343b52", func := "quern/quernlaw2.LexAll", spec := "lexAll", apart := false, narrowed := true }
def LexAllUptoSaid : Prop := lexAllUptoRow.holds Try.pinned (OpenSpec.upto lexAllSpec)

/-- 'quernlaw2.LexFresh', WHERE WHAT IT READS IS OF BULK AT MOST 1048576: true; the input reads as it did. -/
def lexFreshUptoRow : OpenClaim := { program := "yteenkeccpfgffaa", sum := "c309d43766bdfba715777e53572b47307bfbaaca5bd1a27226ac7a5565343b52", func := "quern/quernlaw2.LexFresh", spec := "lexFresh", apart := false, narrowed := true }
def LexFreshUptoSaid : Prop := lexFreshUptoRow.holds Try.pinned (OpenSpec.upto lexFreshSpec)

/-- 'quernlaw2.LexBack', WHERE WHAT IT READS IS OF BULK AT MOST 1048576: true; the input reads as it did. -/
def lexBackUptoRow : OpenClaim := { program := "yteenkeccpfgffaa", sum := "c309d43766bdfba715777e53572b47307bfbaaca5bd1a27226ac7a5565343b52", func := "quern/quernlaw2.LexBack", spec := "lexBack", apart := false, narrowed := true }
def LexBackUptoSaid : Prop := lexBackUptoRow.holds Try.pinned (OpenSpec.upto lexBackSpec)

/-- 'quernlaw2.LexPlaces', WHERE WHAT IT READS IS OF BULK AT MOST 1048576: true; the input reads as it did. -/
def lexPlacesUptoRow : OpenClaim := { program := "yteenkeccpfgffaa", sum := "c309d43766bdfba715777e53572b47307bfbaaca5bd1a27226ac7a5565343b52", func := "quern/quernlaw2.LexPlaces", spec := "lexPlaces", apart := false, narrowed := true }
def LexPlacesUptoSaid : Prop := lexPlacesUptoRow.holds Try.pinned (OpenSpec.upto lexPlacesSpec)

/-- 'quernlaw2.LexAhead', WHERE WHAT IT READS IS OF BULK AT MOST 1048576: true; the input reads as it did. -/
def lexAheadUptoRow : OpenClaim := { program := "yteenkeccpfgffaa", sum := "c309d43766bdfba715777e53572b47307bfbaaca5bd1a27226ac7a5565343b52", func := "quern/quernlaw2.LexAhead", spec := "lexAhead", apart := false, narrowed := true }
def LexAheadUptoSaid : Prop := lexAheadUptoRow.holds Try.pinned (OpenSpec.upto lexAheadSpec)

/-- 'quernlaw2.LexBlanks', WHERE WHAT IT READS IS OF BULK AT MOST 1048576: true; the input reads as it did. -/
def lexBlanksUptoRow : OpenClaim := { program := "yteenkeccpfgffaa", sum := "c309d43766bdfba715777e53572b47307bfbaaca5bd1a27226ac7a5565343b52", func := "quern/quernlaw2.LexBlanks", spec := "lexBlanks", apart := false, narrowed := true }
def LexBlanksUptoSaid : Prop := lexBlanksUptoRow.holds Try.pinned (OpenSpec.upto lexBlanksSpec)

/-- 'quernlaw2.LexRows', WHERE WHAT IT READS IS OF BULK AT MOST 1048576: true; the input reads as it did. -/
def lexRowsUptoRow : OpenClaim := { program := "yteenkeccpfgffaa", sum := "c309d43766bdfba715777e53572b47307bfbaaca5bd1a27226ac7a5565343b52", func := "quern/quernlaw2.LexRows", spec := "lexRows", apart := false, narrowed := true }
def LexRowsUptoSaid : Prop := lexRowsUptoRow.holds Try.pinned (OpenSpec.upto lexRowsSpec)

end Rows
end Go.Proofs.Yteenkeccpfgffaa
