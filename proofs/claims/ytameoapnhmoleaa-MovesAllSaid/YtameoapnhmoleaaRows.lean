/-
  No cell of these rows narrows 'for every input' (looked for: loops, veiled, ifaces, maps, wideKeys, modest, calm, conditions, laid).
  DERIVED. THE GIVEN ROWS OF THIS SEAT. 5 by the template 'for every input the law returns true; each argument reads behind the call as it read before'; 0 by the template 'total and deterministic' (their statements: YtameoapnhmoleaaTotals.lean).
  GIVEN WITH THE SEED: the statements are not yours to turn. If you find one false, say at which input.
  Laid BY PROGRAM, IN A SANDBOX (cutbox-rows.mjs): the forced cells as the released guide's own fill.sh prints them over the translation 2820db55b29e32fc… (all of the seat's roots in one cut). By AI agents, Wed Nov 11 2026. No macro, syntax, notation, axiom, sorry.
-/
import Derived.Test.YtameoapnhmoleaaChecked
import GoSem.Claim
import GoSem.ClaimJoined
import GoSem.ClaimMapViews
import Derived.JoinedTies
import Derived.KernelRfl
namespace Go.Proofs.Ytameoapnhmoleaa
/- THE CELL 'sum', in the pinned program and in every row, IS THE sha256 OF THE DUMP (.gsa) THAT YtameoapnhmoleaaProg.lean LOADS. Nothing in Lean hashes anything: it is a label: what it is worth is what the hold of that sum in a sandbox is worth. -/
noncomputable def Try.pinned : Pinned := { name := "ytameoapnhmoleaa", sum := "2820db55b29e32fc1922a2c0f20934a3a1f0ad1568ebb7542c743dc25d31593f", checked := Try.checked }
namespace Rows
def none {H : Type} : Left H := { results := [], args := [] }

/-- 'quernlaw13.MovesOrder': WHATEVER THE INPUT: true; the input reads as it did. -/
def movesOrderSpec : ChangeSpec := { name := "movesOrder", fn := fun _ => fun
  | [d1, d2] => { results := [.lit (.bool true)], args := [d1, d2] }
  | _ => none }
def movesOrderRow : OpenClaim := { program := "ytameoapnhmoleaa", sum := "2820db55b29e32fc1922a2c0f20934a3a1f0ad1568ebb7542c743dc25d31593f", func := "quern/quernlaw13.MovesOrder", spec := "movesOrder", unfollowed := true, recurses := true, plainKeys := false, apart := false }
def MovesOrderSaid : Prop := movesOrderRow.holds Try.pinned (OpenSpec.ofChange movesOrderSpec)

/-- ITS FALSE NEIGHBOUR: 'it returns false'. Refute it at one input. -/
def movesOrderWrong : ChangeSpec := { name := "movesOrder", fn := fun _ => fun
  | [d1, d2] => { results := [.lit (.bool false)], args := [d1, d2] }
  | _ => none }
def MovesOrderWrongFalsely : Prop := movesOrderRow.holds Try.pinned (OpenSpec.ofChange movesOrderWrong)

/-- 'quernlaw13.MovesDo': WHATEVER THE INPUT: true; the input reads as it did. -/
def movesDoSpec : ChangeSpec := { name := "movesDo", fn := fun _ => fun
  | [d1, d2] => { results := [.lit (.bool true)], args := [d1, d2] }
  | _ => none }
def movesDoRow : OpenClaim := { program := "ytameoapnhmoleaa", sum := "2820db55b29e32fc1922a2c0f20934a3a1f0ad1568ebb7542c743dc25d31593f", func := "quern/quernlaw13.MovesDo", spec := "movesDo", unfollowed := true, recurses := true, plainKeys := false, apart := false }
def MovesDoSaid : Prop := movesDoRow.holds Try.pinned (OpenSpec.ofChange movesDoSpec)

/-- ITS FALSE NEIGHBOUR: 'it returns false'. Refute it at one input. -/
def movesDoWrong : ChangeSpec := { name := "movesDo", fn := fun _ => fun
  | [d1, d2] => { results := [.lit (.bool false)], args := [d1, d2] }
  | _ => none }
def MovesDoWrongFalsely : Prop := movesDoRow.holds Try.pinned (OpenSpec.ofChange movesDoWrong)

/-- 'quernlaw13.MovesCount': WHATEVER THE INPUT: true; the input reads as it did. -/
def movesCountSpec : ChangeSpec := { name := "movesCount", fn := fun _ => fun
  | [d1, d2] => { results := [.lit (.bool true)], args := [d1, d2] }
  | _ => none }
def movesCountRow : OpenClaim := { program := "ytameoapnhmoleaa", sum := "2820db55b29e32fc1922a2c0f20934a3a1f0ad1568ebb7542c743dc25d31593f", func := "quern/quernlaw13.MovesCount", spec := "movesCount", unfollowed := true, recurses := true, plainKeys := false, apart := false }
def MovesCountSaid : Prop := movesCountRow.holds Try.pinned (OpenSpec.ofChange movesCountSpec)

/-- ITS FALSE NEIGHBOUR: 'it returns false'. Refute it at one input. -/
def movesCountWrong : ChangeSpec := { name := "movesCount", fn := fun _ => fun
  | [d1, d2] => { results := [.lit (.bool false)], args := [d1, d2] }
  | _ => none }
def MovesCountWrongFalsely : Prop := movesCountRow.holds Try.pinned (OpenSpec.ofChange movesCountWrong)

/-- 'quernlaw13.MovesLong': WHATEVER THE INPUT: true; the input reads as it did. -/
def movesLongSpec : ChangeSpec := { name := "movesLong", fn := fun _ => fun
  | [d1, d2] => { results := [.lit (.bool true)], args := [d1, d2] }
  | _ => none }
def movesLongRow : OpenClaim := { program := "ytameoapnhmoleaa", sum := "2820db55b29e32fc1922a2c0f20934a3a1f0ad1568ebb7542c743dc25d31593f", func := "quern/quernlaw13.MovesLong", spec := "movesLong", unfollowed := true, recurses := true, plainKeys := false, apart := false }
def MovesLongSaid : Prop := movesLongRow.holds Try.pinned (OpenSpec.ofChange movesLongSpec)

/-- ITS FALSE NEIGHBOUR: 'it returns false'. Refute it at one input. -/
def movesLongWrong : ChangeSpec := { name := "movesLong", fn := fun _ => fun
  | [d1, d2] => { results := [.lit (.bool false)], args := [d1, d2] }
  | _ => none }
def MovesLongWrongFalsely : Prop := movesLongRow.holds Try.pinned (OpenSpec.ofChange movesLongWrong)

/-- 'quernlaw13.MovesAll': WHATEVER THE INPUT: true; the input reads as it did. -/
def movesAllSpec : ChangeSpec := { name := "movesAll", fn := fun _ => fun
  | [d1, d2] => { results := [.lit (.bool true)], args := [d1, d2] }
  | _ => none }
def movesAllRow : OpenClaim := { program := "ytameoapnhmoleaa", sum := "2820db55b29e32fc1922a2c0f20934a3a1f0ad1568ebb7542c743dc25d31593f", func := "quern/quernlaw13.MovesAll", spec := "movesAll", unfollowed := true, recurses := true, plainKeys := false, apart := false }
def MovesAllSaid : Prop := movesAllRow.holds Try.pinned (OpenSpec.ofChange movesAllSpec)

/-- ITS FALSE NEIGHBOUR: 'it returns false'. Refute it at one input. -/
def movesAllWrong : ChangeSpec := { name := "movesAll", fn := fun _ => fun
  | [d1, d2] => { results := [.lit (.bool false)], args := [d1, d2] }
  | _ => none }
def MovesAllWrongFalsely : Prop := movesAllRow.holds Try.pinned (OpenSpec.ofChange movesAllWrong)

/- THE SECOND FORM. 'bulk': how many values and letters a reading holds, each counted each time it is reached (what is shared counts as often as it is met; a slice's spare places count too). A statement '..UptoSaid' is the law's where the arguments, and the package variables that the reading takes, are together of bulk at most 1048576: NARROWER than '..Said'. Prove '..Said' where nothing that the law and all that it calls make is longer than what came in: it says more and counts as full. Else prove '..UptoSaid'. A law counts once. -/
mutual
def uptoBulk {H : Type} : DataW H → Nat
  | .lit (.string bytes) => bytes.length + 1
  | .lit _ => 1
  | .nil => 1
  | .ptr d => uptoBulk d + 1
  | .slice elems spare => uptoBulkAll elems + uptoBulkAll spare + 1
  | .agg parts => uptoBulkAll parts + 1
  | .iface _ d => uptoBulk d + 1
  | .map entries => uptoBulkEntries entries + 1
  | .held _ => 1
def uptoBulkAll {H : Type} : List (DataW H) → Nat
  | [] => 0
  | d :: r => uptoBulk d + uptoBulkAll r
def uptoBulkEntries {H : Type} : List (Lit × DataW H) → Nat
  | [] => 0
  | x :: r => uptoBulkEntry x + uptoBulkEntries r
def uptoBulkEntry {H : Type} : Lit × DataW H → Nat
  | (.string bytes, d) => bytes.length + uptoBulk d + 1
  | (_, d) => uptoBulk d + 1
 end
def uptoSmall : (H : Type) → List (DataW H) → Bool := fun _ ds => decide (uptoBulkAll ds ≤ 1048576)
def OpenSpec.upto (s : _root_.Go.ChangeSpec) : _root_.Go.OpenSpec := { _root_.Go.OpenSpec.ofChange s with cond := some uptoSmall }

/-- 'quernlaw13.MovesOrder', WHERE WHAT IT READS IS OF BULK AT MOST 1048576: true; the input reads as it did. -/
def movesOrderUptoRow : OpenClaim := { program := "ytameoapnhmoleaa", sum := "2820db55b29e32fc1922a2c0f20934a3a1f0ad1568ebb7542c743dc25d31593f", func := "quern/quernlaw13.MovesOrder", spec := "movesOrder", unfollowed := true, recurses := true, plainKeys := false, apart := false, narrowed := true }
def MovesOrderUptoSaid : Prop := movesOrderUptoRow.holds Try.pinned (OpenSpec.upto movesOrderSpec)

/-- 'quernlaw13.MovesDo', WHERE WHAT IT READS IS OF BULK AT MOST 1048576: true; the input reads as it did. -/
def movesDoUptoRow : OpenClaim := { program := "ytameoapnhmoleaa", sum := "2820db55b29e32fc1922a2c0f20934a3a1f0ad1568ebb7542c743dc25d31593f", func := "quern/quernlaw13.MovesDo", spec := "movesDo", unfollowed := true, recurses := true, plainKeys := false, apart := false, narrowed := true }
def MovesDoUptoSaid : Prop := movesDoUptoRow.holds Try.pinned (OpenSpec.upto movesDoSpec)

/-- 'quernlaw13.MovesCount', WHERE WHAT IT READS IS OF BULK AT MOST 1048576: true; the input reads as it did. -/
def movesCountUptoRow : OpenClaim := { program := "ytameoapnhmoleaa", sum := "2820db55b29e32fc1922a2c0f20934a3a1f0ad1568ebb7542c743dc25d31593f", func := "quern/quernlaw13.MovesCount", spec := "movesCount", unfollowed := true, recurses := true, plainKeys := false, apart := false, narrowed := true }
def MovesCountUptoSaid : Prop := movesCountUptoRow.holds Try.pinned (OpenSpec.upto movesCountSpec)

/-- 'quernlaw13.MovesLong', WHERE WHAT IT READS IS OF BULK AT MOST 1048576: true; the input reads as it did. -/
def movesLongUptoRow : OpenClaim := { program := "ytameoapnhmoleaa", sum := "2820db55b29e32fc1922a2c0f20934a3a1f0ad1568ebb7542c743dc25d31593f", func := "quern/quernlaw13.MovesLong", spec := "movesLong", unfollowed := true, recurses := true, plainKeys := false, apart := false, narrowed := true }
def MovesLongUptoSaid : Prop := movesLongUptoRow.holds Try.pinned (OpenSpec.upto movesLongSpec)

/-- 'quernlaw13.MovesAll', WHERE WHAT IT READS IS OF BULK AT MOST 1048576: true; the input reads as it did. -/
def movesAllUptoRow : OpenClaim := { program := "ytameoapnhmoleaa", sum := "2820db55b29e32fc1922a2c0f20934a3a1f0ad1568ebb7542c743dc25d31593f", func := "quern/quernlaw13.MovesAll", spec := "movesAll", unfollowed := true, recurses := true, plainKeys := false, apart := false, narrowed := true }
def MovesAllUptoSaid : Prop := movesAllUptoRow.holds Try.pinned (OpenSpec.upto movesAllSpec)

end Rows
end Go.Proofs.Ytameoapnhmoleaa
