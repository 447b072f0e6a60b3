/-
  No cell of these rows narrows 'for every input' (looked for: loops, veiled, ifaces, maps, wideKeys, modest, calm, conditions, laid).
  DERIVED. THE GIVEN ROWS OF THIS SEAT. 10 by the template 'for every input the law returns true; each argument reads behind the call as it read before'; 0 by the template 'total and deterministic' (their statements: YtgcbpooflecbpaaTotals.lean).
  GIVEN WITH THE SEED: the statements are not yours to turn. If you find one false, say at which input.
  Laid BY PROGRAM, IN A SANDBOX (cutbox-rows.mjs): the forced cells as the released guide's own fill.sh prints them over the translation e52b0e34cd612061… (all of the seat's roots in one cut). By AI agents, Wed Nov 11 2026. No macro, syntax, notation, axiom, sorry.
-/
import Derived.Test.YtgcbpooflecbpaaChecked
import GoSem.Claim
import GoSem.ClaimJoined
import GoSem.ClaimMapViews
import Derived.JoinedTies
import Derived.KernelRfl
namespace Go.Proofs.Ytgcbpooflecbpaa
/- THE CELL 'sum', in the pinned program and in every row, IS THE sha256 OF THE DUMP (.gsa) THAT YtgcbpooflecbpaaProg.lean LOADS. Nothing in Lean hashes anything: it is a label: what it is worth is what the hold of that sum in a sandbox is worth. -/
noncomputable def Try.pinned : Pinned := { name := "ytgcbpooflecbpaa", sum := "e52b0e34cd6120611dc83b7d60afd7049ecdef2a5764331f2e989fee940668de", checked := Try.checked }
namespace Rows
def none {H : Type} : Left H := { results := [], args := [] }

/-- 'laws.FnExactAreOps': WHATEVER THE INPUT: true; the input reads as it did. -/
def fnExactAreOpsSpec : ChangeSpec := { name := "fnExactAreOps", fn := fun _ => fun
  | [d] => { results := [.lit (.bool true)], args := [d] }
  | _ => none }
def fnExactAreOpsRow : OpenClaim := { program := "ytgcbpooflecbpaa", sum := "e52b0e34cd6120611dc83b7d60afd7049ecdef2a5764331f2e989fee940668de", func := "loop.example/g00838/laws.FnExactAreOps", spec := "fnExactAreOps", apart := false }
def FnExactAreOpsSaid : Prop := fnExactAreOpsRow.holds Try.pinned (OpenSpec.ofChange fnExactAreOpsSpec)

/-- ITS FALSE NEIGHBOUR: 'it returns false'. Refute it at one input. -/
def fnExactAreOpsWrong : ChangeSpec := { name := "fnExactAreOps", fn := fun _ => fun
  | [d] => { results := [.lit (.bool false)], args := [d] }
  | _ => none }
def FnExactAreOpsWrongFalsely : Prop := fnExactAreOpsRow.holds Try.pinned (OpenSpec.ofChange fnExactAreOpsWrong)

/-- 'laws.FnExactIsQueue': WHATEVER THE INPUT: true; the input reads as it did. -/
def fnExactIsQueueSpec : ChangeSpec := { name := "fnExactIsQueue", fn := fun _ => fun
  | [d] => { results := [.lit (.bool true)], args := [d] }
  | _ => none }
def fnExactIsQueueRow : OpenClaim := { program := "ytgcbpooflecbpaa", sum := "e52b0e34cd6120611dc83b7d60afd7049ecdef2a5764331f2e989fee940668de", func := "loop.example/g00838/laws.FnExactIsQueue", spec := "fnExactIsQueue", unfollowed := true, recurses := true, apart := false }
def FnExactIsQueueSaid : Prop := fnExactIsQueueRow.holds Try.pinned (OpenSpec.ofChange fnExactIsQueueSpec)

/-- ITS FALSE NEIGHBOUR: 'it returns false'. Refute it at one input. -/
def fnExactIsQueueWrong : ChangeSpec := { name := "fnExactIsQueue", fn := fun _ => fun
  | [d] => { results := [.lit (.bool false)], args := [d] }
  | _ => none }
def FnExactIsQueueWrongFalsely : Prop := fnExactIsQueueRow.holds Try.pinned (OpenSpec.ofChange fnExactIsQueueWrong)

/-- 'laws.FnExactQueueBytes': WHATEVER THE INPUT: true; the input reads as it did. -/
def fnExactQueueBytesSpec : ChangeSpec := { name := "fnExactQueueBytes", fn := fun _ => fun
  | [d] => { results := [.lit (.bool true)], args := [d] }
  | _ => none }
def fnExactQueueBytesRow : OpenClaim := { program := "ytgcbpooflecbpaa", sum := "e52b0e34cd6120611dc83b7d60afd7049ecdef2a5764331f2e989fee940668de", func := "loop.example/g00838/laws.FnExactQueueBytes", spec := "fnExactQueueBytes", unfollowed := true, recurses := true, apart := false }
def FnExactQueueBytesSaid : Prop := fnExactQueueBytesRow.holds Try.pinned (OpenSpec.ofChange fnExactQueueBytesSpec)

/-- ITS FALSE NEIGHBOUR: 'it returns false'. Refute it at one input. -/
def fnExactQueueBytesWrong : ChangeSpec := { name := "fnExactQueueBytes", fn := fun _ => fun
  | [d] => { results := [.lit (.bool false)], args := [d] }
  | _ => none }
def FnExactQueueBytesWrongFalsely : Prop := fnExactQueueBytesRow.holds Try.pinned (OpenSpec.ofChange fnExactQueueBytesWrong)

/-- 'laws.FnExactDelayOf': WHATEVER THE INPUT: true; the input reads as it did. -/
def fnExactDelayOfSpec : ChangeSpec := { name := "fnExactDelayOf", fn := fun _ => fun
  | [d1, d2, d3] => { results := [.lit (.bool true)], args := [d1, d2, d3] }
  | _ => none }
def fnExactDelayOfRow : OpenClaim := { program := "ytgcbpooflecbpaa", sum := "e52b0e34cd6120611dc83b7d60afd7049ecdef2a5764331f2e989fee940668de", func := "loop.example/g00838/laws.FnExactDelayOf", spec := "fnExactDelayOf", unfollowed := true, recurses := true, apart := false }
def FnExactDelayOfSaid : Prop := fnExactDelayOfRow.holds Try.pinned (OpenSpec.ofChange fnExactDelayOfSpec)

/-- ITS FALSE NEIGHBOUR: 'it returns false'. Refute it at one input. -/
def fnExactDelayOfWrong : ChangeSpec := { name := "fnExactDelayOf", fn := fun _ => fun
  | [d1, d2, d3] => { results := [.lit (.bool false)], args := [d1, d2, d3] }
  | _ => none }
def FnExactDelayOfWrongFalsely : Prop := fnExactDelayOfRow.holds Try.pinned (OpenSpec.ofChange fnExactDelayOfWrong)

/-- 'laws.FnExactNewQueue': WHATEVER THE INPUT: true; the input reads as it did. -/
def fnExactNewQueueSpec : ChangeSpec := { name := "fnExactNewQueue", fn := fun _ => fun
  | [d1, d2] => { results := [.lit (.bool true)], args := [d1, d2] }
  | _ => none }
def fnExactNewQueueRow : OpenClaim := { program := "ytgcbpooflecbpaa", sum := "e52b0e34cd6120611dc83b7d60afd7049ecdef2a5764331f2e989fee940668de", func := "loop.example/g00838/laws.FnExactNewQueue", spec := "fnExactNewQueue", unfollowed := true, recurses := true, apart := false }
def FnExactNewQueueSaid : Prop := fnExactNewQueueRow.holds Try.pinned (OpenSpec.ofChange fnExactNewQueueSpec)

/-- ITS FALSE NEIGHBOUR: 'it returns false'. Refute it at one input. -/
def fnExactNewQueueWrong : ChangeSpec := { name := "fnExactNewQueue", fn := fun _ => fun
  | [d1, d2] => { results := [.lit (.bool false)], args := [d1, d2] }
  | _ => none }
def FnExactNewQueueWrongFalsely : Prop := fnExactNewQueueRow.holds Try.pinned (OpenSpec.ofChange fnExactNewQueueWrong)

/-- 'laws.FnExactTakeHead': WHATEVER THE INPUT: true; the input reads as it did. -/
def fnExactTakeHeadSpec : ChangeSpec := { name := "fnExactTakeHead", fn := fun _ => fun
  | [d] => { results := [.lit (.bool true)], args := [d] }
  | _ => none }
def fnExactTakeHeadRow : OpenClaim := { program := "ytgcbpooflecbpaa", sum := "e52b0e34cd6120611dc83b7d60afd7049ecdef2a5764331f2e989fee940668de", func := "loop.example/g00838/laws.FnExactTakeHead", spec := "fnExactTakeHead", unfollowed := true, recurses := true, apart := false }
def FnExactTakeHeadSaid : Prop := fnExactTakeHeadRow.holds Try.pinned (OpenSpec.ofChange fnExactTakeHeadSpec)

/-- ITS FALSE NEIGHBOUR: 'it returns false'. Refute it at one input. -/
def fnExactTakeHeadWrong : ChangeSpec := { name := "fnExactTakeHead", fn := fun _ => fun
  | [d] => { results := [.lit (.bool false)], args := [d] }
  | _ => none }
def FnExactTakeHeadWrongFalsely : Prop := fnExactTakeHeadRow.holds Try.pinned (OpenSpec.ofChange fnExactTakeHeadWrong)

/-- 'laws.FnExactPutTail': WHATEVER THE INPUT: true; the input reads as it did. -/
def fnExactPutTailSpec : ChangeSpec := { name := "fnExactPutTail", fn := fun _ => fun
  | [d1, d2] => { results := [.lit (.bool true)], args := [d1, d2] }
  | _ => none }
def fnExactPutTailRow : OpenClaim := { program := "ytgcbpooflecbpaa", sum := "e52b0e34cd6120611dc83b7d60afd7049ecdef2a5764331f2e989fee940668de", func := "loop.example/g00838/laws.FnExactPutTail", spec := "fnExactPutTail", unfollowed := true, recurses := true, apart := false }
def FnExactPutTailSaid : Prop := fnExactPutTailRow.holds Try.pinned (OpenSpec.ofChange fnExactPutTailSpec)

/-- ITS FALSE NEIGHBOUR: 'it returns false'. Refute it at one input. -/
def fnExactPutTailWrong : ChangeSpec := { name := "fnExactPutTail", fn := fun _ => fun
  | [d1, d2] => { results := [.lit (.bool false)], args := [d1, d2] }
  | _ => none }
def FnExactPutTailWrongFalsely : Prop := fnExactPutTailRow.holds Try.pinned (OpenSpec.ofChange fnExactPutTailWrong)

/-- 'laws.FnExactTakeAll': WHATEVER THE INPUT: true; the input reads as it did. -/
def fnExactTakeAllSpec : ChangeSpec := { name := "fnExactTakeAll", fn := fun _ => fun
  | [d] => { results := [.lit (.bool true)], args := [d] }
  | _ => none }
def fnExactTakeAllRow : OpenClaim := { program := "ytgcbpooflecbpaa", sum := "e52b0e34cd6120611dc83b7d60afd7049ecdef2a5764331f2e989fee940668de", func := "loop.example/g00838/laws.FnExactTakeAll", spec := "fnExactTakeAll", unfollowed := true, recurses := true, apart := false }
def FnExactTakeAllSaid : Prop := fnExactTakeAllRow.holds Try.pinned (OpenSpec.ofChange fnExactTakeAllSpec)

/-- ITS FALSE NEIGHBOUR: 'it returns false'. Refute it at one input. -/
def fnExactTakeAllWrong : ChangeSpec := { name := "fnExactTakeAll", fn := fun _ => fun
  | [d] => { results := [.lit (.bool false)], args := [d] }
  | _ => none }
def FnExactTakeAllWrongFalsely : Prop := fnExactTakeAllRow.holds Try.pinned (OpenSpec.ofChange fnExactTakeAllWrong)

/-- 'laws.FnExactPutDropHead': WHATEVER THE INPUT: true; the input reads as it did. -/
def fnExactPutDropHeadSpec : ChangeSpec := { name := "fnExactPutDropHead", fn := fun _ => fun
  | [d1, d2] => { results := [.lit (.bool true)], args := [d1, d2] }
  | _ => none }
def fnExactPutDropHeadRow : OpenClaim := { program := "ytgcbpooflecbpaa", sum := "e52b0e34cd6120611dc83b7d60afd7049ecdef2a5764331f2e989fee940668de", func := "loop.example/g00838/laws.FnExactPutDropHead", spec := "fnExactPutDropHead", unfollowed := true, recurses := true, apart := false }
def FnExactPutDropHeadSaid : Prop := fnExactPutDropHeadRow.holds Try.pinned (OpenSpec.ofChange fnExactPutDropHeadSpec)

/-- ITS FALSE NEIGHBOUR: 'it returns false'. Refute it at one input. -/
def fnExactPutDropHeadWrong : ChangeSpec := { name := "fnExactPutDropHead", fn := fun _ => fun
  | [d1, d2] => { results := [.lit (.bool false)], args := [d1, d2] }
  | _ => none }
def FnExactPutDropHeadWrongFalsely : Prop := fnExactPutDropHeadRow.holds Try.pinned (OpenSpec.ofChange fnExactPutDropHeadWrong)

/-- 'laws.FnExactRunQueue': WHATEVER THE INPUT: true; the input reads as it did. -/
def fnExactRunQueueSpec : ChangeSpec := { name := "fnExactRunQueue", fn := fun _ => fun
  | [d1, d2, d3] => { results := [.lit (.bool true)], args := [d1, d2, d3] }
  | _ => none }
def fnExactRunQueueRow : OpenClaim := { program := "ytgcbpooflecbpaa", sum := "e52b0e34cd6120611dc83b7d60afd7049ecdef2a5764331f2e989fee940668de", func := "loop.example/g00838/laws.FnExactRunQueue", spec := "fnExactRunQueue", unfollowed := true, recurses := true, apart := false }
def FnExactRunQueueSaid : Prop := fnExactRunQueueRow.holds Try.pinned (OpenSpec.ofChange fnExactRunQueueSpec)

/-- ITS FALSE NEIGHBOUR: 'it returns false'. Refute it at one input. -/
def fnExactRunQueueWrong : ChangeSpec := { name := "fnExactRunQueue", fn := fun _ => fun
  | [d1, d2, d3] => { results := [.lit (.bool false)], args := [d1, d2, d3] }
  | _ => none }
def FnExactRunQueueWrongFalsely : Prop := fnExactRunQueueRow.holds Try.pinned (OpenSpec.ofChange fnExactRunQueueWrong)

/- THE SECOND FORM. 'bulk': how many values and letters a reading holds, each counted each time it is reached (what is shared counts as often as it is met; a slice's spare places count too). A statement '..UptoSaid' is the law's where the arguments, and the package variables that the reading takes, are together of bulk at most 1048576: NARROWER than '..Said'. Prove '..Said' where nothing that the law and all that it calls make is longer than what came in: it says more and counts as full. Else prove '..UptoSaid'. A law counts once. -/
mutual
def uptoBulk {H : Type} : DataW H → Nat
  | .lit (.string bytes) => bytes.length + 1
  | .lit _ => 1
  | .nil => 1
  | .ptr d => uptoBulk d + 1
  | .slice elems spare => uptoBulkAll elems + uptoBulkAll spare + 1
  | .agg parts => uptoBulkAll parts + 1
  | .iface _ d => uptoBulk d + 1
  | .map entries => uptoBulkEntries entries + 1
  | .held _ => 1
def uptoBulkAll {H : Type} : List (DataW H) → Nat
  | [] => 0
  | d :: r => uptoBulk d + uptoBulkAll r
def uptoBulkEntries {H : Type} : List (Lit × DataW H) → Nat
  | [] => 0
  | x :: r => uptoBulkEntry x + uptoBulkEntries r
def uptoBulkEntry {H : Type} : Lit × DataW H → Nat
  | (.string bytes, d) => bytes.length + uptoBulk d + 1
  | (_, d) => uptoBulk d + 1
 end
def uptoSmall : (H : Type) → List (DataW H) → Bool := fun _ ds => decide (uptoBulkAll ds ≤ 1048576)
def OpenSpec.upto (s : _root_.Go.ChangeSpec) : _root_.Go.OpenSpec := { _root_.Go.OpenSpec.ofChange s with cond := some uptoSmall }

/-- 'laws.FnExactAreOps', WHERE WHAT IT READS IS OF BULK AT MOST 1048576: true; the input reads as it did. -/
def fnExactAreOpsUptoRow : OpenClaim := { program := "ytgcbpooflecbpaa", sum := "e52b0e34cd6120611dc83b7d60afd7049ecdef2a5764331f2e989fee940668de", func := "loop.example/g00838/laws.FnExactAreOps", spec := "fnExactAreOps", apart := false, narrowed := true }
def FnExactAreOpsUptoSaid : Prop := fnExactAreOpsUptoRow.holds Try.pinned (OpenSpec.upto fnExactAreOpsSpec)

/-- 'laws.FnExactIsQueue', WHERE WHAT IT READS IS OF BULK AT MOST 1048576: true; the input reads as it did. -/
def fnExactIsQueueUptoRow : OpenClaim := { program := "ytgcbpooflecbpaa", sum := "e52b0e34cd6120611dc83b7d60afd7049ecdef2a5764331f2e989fee940668de", func := "loop.example/g00838/laws.FnExactIsQueue", spec := "fnExactIsQueue", unfollowed := true, recurses := true, apart := false, narrowed := true }
def FnExactIsQueueUptoSaid : Prop := fnExactIsQueueUptoRow.holds Try.pinned (OpenSpec.upto fnExactIsQueueSpec)

/-- 'laws.FnExactQueueBytes', WHERE WHAT IT READS IS OF BULK AT MOST 1048576: true; the input reads as it did. -/
def fnExactQueueBytesUptoRow : OpenClaim := { program := "ytgcbpooflecbpaa", sum := "e52b0e34cd6120611dc83b7d60afd7049ecdef2a5764331f2e989fee940668de", func := "loop.example/g00838/laws.FnExactQueueBytes", spec := "fnExactQueueBytes", unfollowed := true, recurses := true, apart := false, narrowed := true }
def FnExactQueueBytesUptoSaid : Prop := fnExactQueueBytesUptoRow.holds Try.pinned (OpenSpec.upto fnExactQueueBytesSpec)

/-- 'laws.FnExactDelayOf', WHERE WHAT IT READS IS OF BULK AT MOST 1048576: true; the input reads as it did. -/
def fnExactDelayOfUptoRow : OpenClaim := { program := "ytgcbpooflecbpaa", sum := "e52b0e34cd6120611dc83b7d60afd7049ecdef2a5764331f2e989fee940668de", func := "loop.example/g00838/laws.FnExactDelayOf", spec := "fnExactDelayOf", unfollowed := true, recurses := true, apart := false, narrowed := true }
def FnExactDelayOfUptoSaid : Prop := fnExactDelayOfUptoRow.holds Try.pinned (OpenSpec.upto fnExactDelayOfSpec)

/-- 'laws.FnExactNewQueue', WHERE WHAT IT READS IS OF BULK AT MOST 1048576: true; the input reads as it did. -/
def fnExactNewQueueUptoRow : OpenClaim := { program := "ytgcbpooflecbpaa", sum := "e52b0e34cd6120611dc83b7d60afd7049ecdef2a5764331f2e989fee940668de", func := "loop.example/g00838/laws.FnExactNewQueue", spec := "fnExactNewQueue", unfollowed := true, recurses := true, apart := false, narrowed := true }
def FnExactNewQueueUptoSaid : Prop := fnExactNewQueueUptoRow.holds Try.pinned (OpenSpec.upto fnExactNewQueueSpec)

/-- 'laws.FnExactTakeHead', WHERE WHAT IT READS IS OF BULK AT MOST 1048576: true; the input reads as it did. -/
def fnExactTakeHeadUptoRow : OpenClaim := { program := "ytgcbpooflecbpaa", sum := "e52b0e34cd6120611dc83b7d60afd7049ecdef2a5764331f2e989fee940668de", func := "loop.example/g00838/laws.FnExactTakeHead", spec := "fnExactTakeHead", unfollowed := true, recurses := true, apart := false, narrowed := true }
def FnExactTakeHeadUptoSaid : Prop := fnExactTakeHeadUptoRow.holds Try.pinned (OpenSpec.upto fnExactTakeHeadSpec)

/-- 'laws.FnExactPutTail', WHERE WHAT IT READS IS OF BULK AT MOST 1048576: true; the input reads as it did. -/
def fnExactPutTailUptoRow : OpenClaim := { program := "ytgcbpooflecbpaa", sum := "e52b0e34cd6120611dc83b7d60afd7049ecdef2a5764331f2e989fee940668de", func := "loop.example/g00838/laws.FnExactPutTail", spec := "fnExactPutTail", unfollowed := true, recurses := true, apart := false, narrowed := true }
def FnExactPutTailUptoSaid : Prop := fnExactPutTailUptoRow.holds Try.pinned (OpenSpec.upto fnExactPutTailSpec)

/-- 'laws.FnExactTakeAll', WHERE WHAT IT READS IS OF BULK AT MOST 1048576: true; the input reads as it did. -/
def fnExactTakeAllUptoRow : OpenClaim := { program := "ytgcbpooflecbpaa", sum := "e52b0e34cd6120611dc83b7d60afd7049ecdef2a5764331f2e989fee940668de", func := "loop.example/g00838/laws.FnExactTakeAll", spec := "fnExactTakeAll", unfollowed := true, recurses := true, apart := false, narrowed := true }
def FnExactTakeAllUptoSaid : Prop := fnExactTakeAllUptoRow.holds Try.pinned (OpenSpec.upto fnExactTakeAllSpec)

/-- 'laws.FnExactPutDropHead', WHERE WHAT IT READS IS OF BULK AT MOST 1048576: true; the input reads as it did. -/
def fnExactPutDropHeadUptoRow : OpenClaim := { program := "ytgcbpooflecbpaa", sum := "e52b0e34cd6120611dc83b7d60afd7049ecdef2a5764331f2e989fee940668de", func := "loop.example/g00838/laws.FnExactPutDropHead", spec := "fnExactPutDropHead", unfollowed := true, recurses := true, apart := false, narrowed := true }
def FnExactPutDropHeadUptoSaid : Prop := fnExactPutDropHeadUptoRow.holds Try.pinned (OpenSpec.upto fnExactPutDropHeadSpec)

/-- 'laws.FnExactRunQueue', WHERE WHAT IT READS IS OF BULK AT MOST 1048576: true; the input reads as it did. -/
def fnExactRunQueueUptoRow : OpenClaim := { program := "ytgcbpooflecbpaa", sum := "e52b0e34cd6120611dc83b7d60afd7049ecdef2a5764331f2e989fee940668de", func := "loop.example/g00838/laws.FnExactRunQueue", spec := "fnExactRunQueue", unfollowed := true, recurses := true, apart := false, narrowed := true }
def FnExactRunQueueUptoSaid : Prop := fnExactRunQueueUptoRow.holds Try.pinned (OpenSpec.upto fnExactRunQueueSpec)

end Rows
end Go.Proofs.Ytgcbpooflecbpaa
