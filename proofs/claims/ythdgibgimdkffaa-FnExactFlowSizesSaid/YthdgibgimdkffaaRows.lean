/-
  No cell of these rows narrows 'for every input' (looked for: loops, veiled, ifaces, maps, wideKeys, modest, calm, conditions, laid).
  DERIVED. THE GIVEN ROWS OF THIS SEAT. 4 by the template 'for every input the law returns true; each argument reads behind the call as it read before'; 0 by the template 'total and deterministic' (their statements: YthdgibgimdkffaaTotals.lean).
  GIVEN WITH THE SEED: the statements are not yours to turn. If you find one false, say at which input.
  Laid BY PROGRAM, IN A SANDBOX (cutbox-rows.mjs): the forced cells as the released guide's own fill.sh prints them over the translation ea28a3083aea1cf0… (all of the seat's roots in one cut). By AI agents, Wed Nov 11 2026. No macro, syntax, notation, axiom, sorry.
-/
import Derived.Test.YthdgibgimdkffaaChecked
import GoSem.Claim
import GoSem.ClaimJoined
import GoSem.ClaimMapViews
import Derived.JoinedTies
import Derived.KernelRfl
namespace Go.Proofs.Ythdgibgimdkffaa
/- THE CELL 'sum', in the pinned program and in every row, IS THE sha256 OF THE DUMP (.gsa) THAT YthdgibgimdkffaaProg.lean LOADS. Nothing in Lean hashes anything: it is a label: what it is worth is what the hold of that sum in a sandbox is worth. -/
noncomputable def Try.pinned : Pinned := { name := "ythdgibgimdkffaa", sum := "ea28a3083aea1cf0dc1b12f0771b720802a987ec90cb604c4415812d757f7e07", checked := Try.checked }
namespace Rows
def none {H : Type} : Left H := { results := [], args := [] }

/-- 'laws.FnExactReadHeader': WHATEVER THE INPUT: true; the input reads as it did. -/
def fnExactReadHeaderSpec : ChangeSpec := { name := "fnExactReadHeader", fn := fun _ => fun
  | [d] => { results := [.lit (.bool true)], args := [d] }
  | _ => none }
def fnExactReadHeaderRow : OpenClaim := { program := "ythdgibgimdkffaa", sum := "ea28a3083aea1cf0dc1b12f0771b720802a987ec90cb604c4415812d757f7e07", func := "loop.example/g00838/laws.FnExactReadHeader", spec := "fnExactReadHeader", unfollowed := true, recurses := true, apart := false }
def FnExactReadHeaderSaid : Prop := fnExactReadHeaderRow.holds Try.pinned (OpenSpec.ofChange fnExactReadHeaderSpec)

/-- ITS FALSE NEIGHBOUR: 'it returns false'. Refute it at one input. -/
def fnExactReadHeaderWrong : ChangeSpec := { name := "fnExactReadHeader", fn := fun _ => fun
  | [d] => { results := [.lit (.bool false)], args := [d] }
  | _ => none }
def FnExactReadHeaderWrongFalsely : Prop := fnExactReadHeaderRow.holds Try.pinned (OpenSpec.ofChange fnExactReadHeaderWrong)

/-- 'laws.FnExactArePackets': WHATEVER THE INPUT: true; the input reads as it did. -/
def fnExactArePacketsSpec : ChangeSpec := { name := "fnExactArePackets", fn := fun _ => fun
  | [d] => { results := [.lit (.bool true)], args := [d] }
  | _ => none }
def fnExactArePacketsRow : OpenClaim := { program := "ythdgibgimdkffaa", sum := "ea28a3083aea1cf0dc1b12f0771b720802a987ec90cb604c4415812d757f7e07", func := "loop.example/g00838/laws.FnExactArePackets", spec := "fnExactArePackets", apart := false }
def FnExactArePacketsSaid : Prop := fnExactArePacketsRow.holds Try.pinned (OpenSpec.ofChange fnExactArePacketsSpec)

/-- ITS FALSE NEIGHBOUR: 'it returns false'. Refute it at one input. -/
def fnExactArePacketsWrong : ChangeSpec := { name := "fnExactArePackets", fn := fun _ => fun
  | [d] => { results := [.lit (.bool false)], args := [d] }
  | _ => none }
def FnExactArePacketsWrongFalsely : Prop := fnExactArePacketsRow.holds Try.pinned (OpenSpec.ofChange fnExactArePacketsWrong)

/-- 'laws.FnExactTotalSize': WHATEVER THE INPUT: true; the input reads as it did. -/
def fnExactTotalSizeSpec : ChangeSpec := { name := "fnExactTotalSize", fn := fun _ => fun
  | [d] => { results := [.lit (.bool true)], args := [d] }
  | _ => none }
def fnExactTotalSizeRow : OpenClaim := { program := "ythdgibgimdkffaa", sum := "ea28a3083aea1cf0dc1b12f0771b720802a987ec90cb604c4415812d757f7e07", func := "loop.example/g00838/laws.FnExactTotalSize", spec := "fnExactTotalSize", apart := false }
def FnExactTotalSizeSaid : Prop := fnExactTotalSizeRow.holds Try.pinned (OpenSpec.ofChange fnExactTotalSizeSpec)

/-- ITS FALSE NEIGHBOUR: 'it returns false'. Refute it at one input. -/
def fnExactTotalSizeWrong : ChangeSpec := { name := "fnExactTotalSize", fn := fun _ => fun
  | [d] => { results := [.lit (.bool false)], args := [d] }
  | _ => none }
def FnExactTotalSizeWrongFalsely : Prop := fnExactTotalSizeRow.holds Try.pinned (OpenSpec.ofChange fnExactTotalSizeWrong)

/-- 'laws.FnExactFlowSizes': WHATEVER THE INPUT: true; the input reads as it did. -/
def fnExactFlowSizesSpec : ChangeSpec := { name := "fnExactFlowSizes", fn := fun _ => fun
  | [d1, d2] => { results := [.lit (.bool true)], args := [d1, d2] }
  | _ => none }
def fnExactFlowSizesRow : OpenClaim := { program := "ythdgibgimdkffaa", sum := "ea28a3083aea1cf0dc1b12f0771b720802a987ec90cb604c4415812d757f7e07", func := "loop.example/g00838/laws.FnExactFlowSizes", spec := "fnExactFlowSizes", apart := false }
def FnExactFlowSizesSaid : Prop := fnExactFlowSizesRow.holds Try.pinned (OpenSpec.ofChange fnExactFlowSizesSpec)

/-- ITS FALSE NEIGHBOUR: 'it returns false'. Refute it at one input. -/
def fnExactFlowSizesWrong : ChangeSpec := { name := "fnExactFlowSizes", fn := fun _ => fun
  | [d1, d2] => { results := [.lit (.bool false)], args := [d1, d2] }
  | _ => none }
def FnExactFlowSizesWrongFalsely : Prop := fnExactFlowSizesRow.holds Try.pinned (OpenSpec.ofChange fnExactFlowSizesWrong)

/- THE SECOND FORM. 'bulk': how many values and letters a reading holds, each counted each time it is reached (what is shared counts as often as it is met; a slice's spare places count too). A statement '..UptoSaid' is the law's where the arguments, and the package variables that the reading takes, are together of bulk at most 1048576: NARROWER than '..Said'. Prove '..Said' where nothing that the law and all that it calls make is longer than what came in: it says more and counts as full. Else prove '..UptoSaid'. A law counts once. -/
mutual
def uptoBulk {H : Type} : DataW H → Nat
  | .lit (.string bytes) => bytes.length + 1
  | .lit _ => 1
  | .nil => 1
  | .ptr d => uptoBulk d + 1
  | .slice elems spare => uptoBulkAll elems + uptoBulkAll spare + 1
  | .agg parts => uptoBulkAll parts + 1
  | .iface _ d => uptoBulk d + 1
  | .map entries => uptoBulkEntries entries + 1
  | .held _ => 1
def uptoBulkAll {H : Type} : List (DataW H) → Nat
  | [] => 0
  | d :: r => uptoBulk d + uptoBulkAll r
def uptoBulkEntries {H : Type} : List (Lit × DataW H) → Nat
  | [] => 0
  | x :: r => uptoBulkEntry x + uptoBulkEntries r
def uptoBulkEntry {H : Type} : Lit × DataW H → Nat
  | (.string bytes, d) => bytes.length + uptoBulk d + 1
  | (_, d) => uptoBulk d + 1
 end
def uptoSmall : (H : Type) → List (DataW H) → Bool := fun _ ds => decide (uptoBulkAll ds ≤ 1048576)
def OpenSpec.upto (s : _root_.Go.ChangeSpec) : _root_.Go.OpenSpec := { _root_.Go.OpenSpec.ofChange s with cond := some uptoSmall }

/-- 'laws.FnExactReadHeader', WHERE WHAT IT READS IS OF BULK AT MOST 1048576: true; the input reads as it did. -/
def fnExactReadHeaderUptoRow : OpenClaim := { program := "ythdgibgimdkffaa", sum := "ea28a3083aea1cf0dc1b12f0771b720802a987ec90cb604c4415812d757f7e07", func := "loop.example/g00838/laws.FnExactReadHeader", spec := "fnExactReadHeader", unfollowed := true, recurses := true, apart := false, narrowed := true }
def FnExactReadHeaderUptoSaid : Prop := fnExactReadHeaderUptoRow.holds Try.pinned (OpenSpec.upto fnExactReadHeaderSpec)

/-- 'laws.FnExactArePackets', WHERE WHAT IT READS IS OF BULK AT MOST 1048576: true; the input reads as it did. -/
def fnExactArePacketsUptoRow : OpenClaim := { program := "ythdgibgimdkffaa", sum := "ea28a3083aea1cf0dc1b12f0771b720802a987ec90cb604c4415812d757f7e07", func := "loop.example/g00838/laws.FnExactArePackets", spec := "fnExactArePackets", apart := false, narrowed := true }
def FnExactArePacketsUptoSaid : Prop := fnExactArePacketsUptoRow.holds Try.pinned (OpenSpec.upto fnExactArePacketsSpec)

/-- 'laws.FnExactTotalSize', WHERE WHAT IT READS IS OF BULK AT MOST 1048576: true; the input reads as it did. -/
def fnExactTotalSizeUptoRow : OpenClaim := { program := "ythdgibgimdkffaa", sum := "ea28a3083aea1cf0dc1b12f0771b720802a987ec90cb604c4415812d757f7e07", func := "loop.example/g00838/laws.FnExactTotalSize", spec := "fnExactTotalSize", apart := false, narrowed := true }
def FnExactTotalSizeUptoSaid : Prop := fnExactTotalSizeUptoRow.holds Try.pinned (OpenSpec.upto fnExactTotalSizeSpec)

/-- 'laws.FnExactFlowSizes', WHERE WHAT IT READS IS OF BULK AT MOST 1048576: true; the input reads as it did. -/
def fnExactFlowSizesUptoRow : OpenClaim := { program := "ythdgibgimdkffaa", sum := "ea28a3083aea1cf0dc1b12f0771b720802a987ec90cb604c4415812d757f7e07", func := "loop.example/g00838/laws.FnExactFlowSizes", spec := "fnExactFlowSizes", apart := false, narrowed := true }
def FnExactFlowSizesUptoSaid : Prop := fnExactFlowSizesUptoRow.holds Try.pinned (OpenSpec.upto fnExactFlowSizesSpec)

end Rows
end Go.Proofs.Ythdgibgimdkffaa
