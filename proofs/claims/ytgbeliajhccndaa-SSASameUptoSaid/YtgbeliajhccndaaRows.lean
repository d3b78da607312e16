/-
  No cell of these rows narrows 'for every input' (looked for: loops, veiled, ifaces, maps, wideKeys, modest, calm, conditions, laid).
  DERIVED. THE GIVEN ROWS OF THIS SEAT. 6 by the template 'for every input the law returns true; each argument reads behind the call as it read before'; 0 by the template 'total and deterministic' (their statements: YtgbeliajhccndaaTotals.lean).
  GIVEN WITH THE SEED: the statements are not yours to turn. If you find one false, say at which input.
  Laid BY PROGRAM, IN A SANDBOX (cutbox-rows.mjs): the forced cells as the released guide's own fill.sh prints them over the translation fe4905e7db33077b… (all of the seat's roots in one cut). By AI agents, Wed Nov 11 2026. No macro, syntax, notation, axiom, sorry.
-/
import Derived.Test.YtgbeliajhccndaaChecked
import GoSem.Claim
import GoSem.ClaimJoined
import GoSem.ClaimMapViews
import Derived.JoinedTies
import Derived.KernelRfl
namespace Go.Proofs.Ytgbeliajhccndaa
/- THE CELL 'sum', in the pinned program and in every row, IS THE sha256 OF THE DUMP (.gsa) THAT YtgbeliajhccndaaProg.lean LOADS. Nothing in Lean hashes anything: it is a label: what it is worth is what the hold of that sum in a sandbox is worth. -/
noncomputable def Try.pinned : Pinned := { name := "ytgbeliajhccndaa", sum := "fe4905e7db33077b8f1bca029d5897b3d7154c7e4ec1c6431c1308ad84aa9369", checked := Try.checked }
namespace Rows
def none {H : Type} : Left H := { results := [], args := [] }

/-- 'quernlaw9.SSACheck': WHATEVER THE INPUT: true; the input reads as it did. -/
def sSACheckSpec : ChangeSpec := { name := "sSACheck", fn := fun _ => fun
  | [d] => { results := [.lit (.bool true)], args := [d] }
  | _ => none }
def sSACheckRow : OpenClaim := { program := "ytgbeliajhccndaa", sum := "fe4905e7db33077b8f1bca029d5897b3d7154c7e4ec1c6431c1308ad84aa9369", func := "quern/quernlaw9.SSACheck", spec := "sSACheck", unfollowed := true, recurses := true, apart := false }
def SSACheckSaid : Prop := sSACheckRow.holds Try.pinned (OpenSpec.ofChange sSACheckSpec)

/-- ITS FALSE NEIGHBOUR: 'it returns false'. Refute it at one input. -/
def sSACheckWrong : ChangeSpec := { name := "sSACheck", fn := fun _ => fun
  | [d] => { results := [.lit (.bool false)], args := [d] }
  | _ => none }
def SSACheckWrongFalsely : Prop := sSACheckRow.holds Try.pinned (OpenSpec.ofChange sSACheckWrong)

/-- 'quernlaw9.SSASame': WHATEVER THE INPUT: true; the input reads as it did. -/
def sSASameSpec : ChangeSpec := { name := "sSASame", fn := fun _ => fun
  | [d1, d2] => { results := [.lit (.bool true)], args := [d1, d2] }
  | _ => none }
def sSASameRow : OpenClaim := { program := "ytgbeliajhccndaa", sum := "fe4905e7db33077b8f1bca029d5897b3d7154c7e4ec1c6431c1308ad84aa9369", func := "quern/quernlaw9.SSASame", spec := "sSASame", unfollowed := true, recurses := true, apart := false }
def SSASameSaid : Prop := sSASameRow.holds Try.pinned (OpenSpec.ofChange sSASameSpec)

/-- ITS FALSE NEIGHBOUR: 'it returns false'. Refute it at one input. -/
def sSASameWrong : ChangeSpec := { name := "sSASame", fn := fun _ => fun
  | [d1, d2] => { results := [.lit (.bool false)], args := [d1, d2] }
  | _ => none }
def SSASameWrongFalsely : Prop := sSASameRow.holds Try.pinned (OpenSpec.ofChange sSASameWrong)

/-- 'quernlaw9.SSARenamed': WHATEVER THE INPUT: true; the input reads as it did. -/
def sSARenamedSpec : ChangeSpec := { name := "sSARenamed", fn := fun _ => fun
  | [d1, d2] => { results := [.lit (.bool true)], args := [d1, d2] }
  | _ => none }
def sSARenamedRow : OpenClaim := { program := "ytgbeliajhccndaa", sum := "fe4905e7db33077b8f1bca029d5897b3d7154c7e4ec1c6431c1308ad84aa9369", func := "quern/quernlaw9.SSARenamed", spec := "sSARenamed", unfollowed := true, recurses := true, apart := false }
def SSARenamedSaid : Prop := sSARenamedRow.holds Try.pinned (OpenSpec.ofChange sSARenamedSpec)

/-- ITS FALSE NEIGHBOUR: 'it returns false'. Refute it at one input. -/
def sSARenamedWrong : ChangeSpec := { name := "sSARenamed", fn := fun _ => fun
  | [d1, d2] => { results := [.lit (.bool false)], args := [d1, d2] }
  | _ => none }
def SSARenamedWrongFalsely : Prop := sSARenamedRow.holds Try.pinned (OpenSpec.ofChange sSARenamedWrong)

/-- 'quernlaw9.SSAMade': WHATEVER THE INPUT: true; the input reads as it did. -/
def sSAMadeSpec : ChangeSpec := { name := "sSAMade", fn := fun _ => fun
  | [d] => { results := [.lit (.bool true)], args := [d] }
  | _ => none }
def sSAMadeRow : OpenClaim := { program := "ytgbeliajhccndaa", sum := "fe4905e7db33077b8f1bca029d5897b3d7154c7e4ec1c6431c1308ad84aa9369", func := "quern/quernlaw9.SSAMade", spec := "sSAMade", unfollowed := true, recurses := true, apart := false }
def SSAMadeSaid : Prop := sSAMadeRow.holds Try.pinned (OpenSpec.ofChange sSAMadeSpec)

/-- ITS FALSE NEIGHBOUR: 'it returns false'. Refute it at one input. -/
def sSAMadeWrong : ChangeSpec := { name := "sSAMade", fn := fun _ => fun
  | [d] => { results := [.lit (.bool false)], args := [d] }
  | _ => none }
def SSAMadeWrongFalsely : Prop := sSAMadeRow.holds Try.pinned (OpenSpec.ofChange sSAMadeWrong)

/-- 'quernlaw9.SSALong': WHATEVER THE INPUT: true; the input reads as it did. -/
def sSALongSpec : ChangeSpec := { name := "sSALong", fn := fun _ => fun
  | [d] => { results := [.lit (.bool true)], args := [d] }
  | _ => none }
def sSALongRow : OpenClaim := { program := "ytgbeliajhccndaa", sum := "fe4905e7db33077b8f1bca029d5897b3d7154c7e4ec1c6431c1308ad84aa9369", func := "quern/quernlaw9.SSALong", spec := "sSALong", unfollowed := true, recurses := true, apart := false }
def SSALongSaid : Prop := sSALongRow.holds Try.pinned (OpenSpec.ofChange sSALongSpec)

/-- ITS FALSE NEIGHBOUR: 'it returns false'. Refute it at one input. -/
def sSALongWrong : ChangeSpec := { name := "sSALong", fn := fun _ => fun
  | [d] => { results := [.lit (.bool false)], args := [d] }
  | _ => none }
def SSALongWrongFalsely : Prop := sSALongRow.holds Try.pinned (OpenSpec.ofChange sSALongWrong)

/-- 'quernlaw9.SSALimits': WHATEVER THE INPUT: true; the input reads as it did. -/
def sSALimitsSpec : ChangeSpec := { name := "sSALimits", fn := fun _ => fun
  | [d1, d2] => { results := [.lit (.bool true)], args := [d1, d2] }
  | _ => none }
def sSALimitsRow : OpenClaim := { program := "ytgbeliajhccndaa", sum := "fe4905e7db33077b8f1bca029d5897b3d7154c7e4ec1c6431c1308ad84aa9369", func := "quern/quernlaw9.SSALimits", spec := "sSALimits", unfollowed := true, recurses := true, apart := false }
def SSALimitsSaid : Prop := sSALimitsRow.holds Try.pinned (OpenSpec.ofChange sSALimitsSpec)

/-- ITS FALSE NEIGHBOUR: 'it returns false'. Refute it at one input. -/
def sSALimitsWrong : ChangeSpec := { name := "sSALimits", fn := fun _ => fun
  | [d1, d2] => { results := [.lit (.bool false)], args := [d1, d2] }
  | _ => none }
def SSALimitsWrongFalsely : Prop := sSALimitsRow.holds Try.pinned (OpenSpec.ofChange sSALimitsWrong)

/- THE SECOND FORM. 'bulk': how many values and letters a reading holds, each counted each time it is reached (what is shared counts as often as it is met; a slice's spare places count too). A statement '..UptoSaid' is the law's where the arguments, and the package variables that the reading takes, are together of bulk at most 1048576: NARROWER than '..Said'. Prove '..Said' where nothing that the law and all that it calls make is longer than what came in: it says more and counts as full. Else prove '..UptoSaid'. A law counts once. -/
mutual
def uptoBulk {H : Type} : DataW H → Nat
  | .lit (.string bytes) => bytes.length + 1
  | .lit _ => 1
  | .nil => 1
  | .ptr d => uptoBulk d + 1
  | .slice elems spare => uptoBulkAll elems + uptoBulkAll spare + 1
  | .agg parts => uptoBulkAll parts + 1
  | .iface _ d => uptoBulk d + 1
  | .map entries => uptoBulkEntries entries + 1
  | .held _ => 1
def uptoBulkAll {H : Type} : List (DataW H) → Nat
  | [] => 0
  | d :: r => uptoBulk d + uptoBulkAll r
def uptoBulkEntries {H : Type} : List (Lit × DataW H) → Nat
  | [] => 0
  | x :: r => uptoBulkEntry x + uptoBulkEntries r
def uptoBulkEntry {H : Type} : Lit × DataW H → Nat
  | (.string bytes, d) => bytes.length + uptoBulk d + 1
  | (_, d) => uptoBulk d + 1
 end
def uptoSmall : (H : Type) → List (DataW H) → Bool := fun _ ds => decide (uptoBulkAll ds ≤ 1048576)
def OpenSpec.upto (s : _root_.Go.ChangeSpec) : _root_.Go.OpenSpec := { _root_.Go.OpenSpec.ofChange s with cond := some uptoSmall }

/-- 'quernlaw9.SSACheck', WHERE WHAT IT READS IS OF BULK AT MOST 1048576: true; the input reads as it did. -/
def sSACheckUptoRow : OpenClaim := { program := "ytgbeliajhccndaa", sum := "fe4905e7db33077b8f1bca029d5897b3d7154c7e4ec1c6431c1308ad84aa9369", func := "quern/quernlaw9.SSACheck", spec := "sSACheck", unfollowed := true, recurses := true, apart := false, narrowed := true }
def SSACheckUptoSaid : Prop := sSACheckUptoRow.holds Try.pinned (OpenSpec.upto sSACheckSpec)

/-- 'quernlaw9.SSASame', WHERE WHAT IT READS IS OF BULK AT MOST 1048576: true; the input reads as it did. -/
def sSASameUptoRow : OpenClaim := { program := "ytgbeliajhccndaa", sum := "fe4905e7db33077b8f1bca029d5897b3d7154c7e4ec1c6431c1308ad84aa9369", func := "quern/quernlaw9.SSASame", spec := "sSASame", unfollowed := true, recurses := true, apart := false, narrowed := true }
def SSASameUptoSaid : Prop := sSASameUptoRow.holds Try.pinned (OpenSpec.upto sSASameSpec)

/-- 'quernlaw9.SSARenamed', WHERE WHAT IT READS IS OF BULK AT MOST 1048576: true; the input reads as it did. -/
def sSARenamedUptoRow : OpenClaim := { program := "ytgbeliajhccndaa", sum := "fe4905e7db33077b8f1bca029d5897b3d7154c7e4ec1c6431c1308ad84aa9369", func := "quern/quernlaw9.SSARenamed", spec := "sSARenamed", unfollowed := true, recurses := true, apart := false, narrowed := true }
def SSARenamedUptoSaid : Prop := sSARenamedUptoRow.holds Try.pinned (OpenSpec.upto sSARenamedSpec)

/-- 'quernlaw9.SSAMade', WHERE WHAT IT READS IS OF BULK AT MOST 1048576: true; the input reads as it did. -/
def sSAMadeUptoRow : OpenClaim := { program := "ytgbeliajhccndaa", sum := "fe4905e7db33077b8f1bca029d5897b3d7154c7e4ec1c6431c1308ad84aa9369", func := "quern/quernlaw9.SSAMade", spec := "sSAMade", unfollowed := true, recurses := true, apart := false, narrowed := true }
def SSAMadeUptoSaid : Prop := sSAMadeUptoRow.holds Try.pinned (OpenSpec.upto sSAMadeSpec)

/-- 'quernlaw9.SSALong', WHERE WHAT IT READS IS OF BULK AT MOST 1048576: true; the input reads as it did. -/
def sSALongUptoRow : OpenClaim := { program := "ytgbeliajhccndaa", sum := "fe4905e7db33077b8f1bca029d5897b3d7154c7e4ec1c6431c1308ad84aa9369", func := "quern/quernlaw9.SSALong", spec := "sSALong", unfollowed := true, recurses := true, apart := false, narrowed := true }
def SSALongUptoSaid : Prop := sSALongUptoRow.holds Try.pinned (OpenSpec.upto sSALongSpec)

/-- 'quernlaw9.SSALimits', WHERE WHAT IT READS IS OF BULK AT MOST 1048576: true; the input reads as it did. -/
def sSALimitsUptoRow : OpenClaim := { program := "ytgbeliajhccndaa", sum := "fe4905e7db33077b8f1bca029d5897b3d7154c7e4ec1c6431c1308ad84aa9369", func := "quern/quernlaw9.SSALimits", spec := "sSALimits", unfollowed := true, recurses := true, apart := false, narrowed := true }
def SSALimitsUptoSaid : Prop := sSALimitsUptoRow.holds Try.pinned (OpenSpec.upto sSALimitsSpec)

end Rows
end Go.Proofs.Ytgbeliajhccndaa
