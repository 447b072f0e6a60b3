/-
  No cell of these rows narrows 'for every input' (looked for: loops, veiled, ifaces, maps, wideKeys, modest, calm, conditions, laid).
  DERIVED. THE GIVEN ROWS OF THIS SEAT. 9 by the template 'for every input the law returns true; each argument reads behind the call as it read before'; 0 by the template 'total and deterministic' (their statements: YtgdldmeeaejjpaaTotals.lean).
  GIVEN WITH THE SEED: the statements are not yours to turn. If you find one false, say at which input.
  Laid BY PROGRAM, IN A SANDBOX (cutbox-rows.mjs): the forced cells as the released guide's own fill.sh prints them over the translation e76dcde232b26def… (all of the seat's roots in one cut). By AI agents, Wed Nov 11 2026. No macro, syntax, notation, axiom, sorry.
-/
import Derived.Test.YtgdldmeeaejjpaaChecked
import GoSem.Claim
import GoSem.ClaimJoined
import GoSem.ClaimMapViews
import Derived.JoinedTies
import Derived.KernelRfl
namespace Go.Proofs.Ytgdldmeeaejjpaa
/- THE CELL 'sum', in the pinned program and in every row, IS THE sha256 OF THE DUMP (.gsa) THAT YtgdldmeeaejjpaaProg.lean LOADS. Nothing in Lean hashes anything: it is a label: what it is worth is what the hold of that sum in a sandbox is worth. -/
noncomputable def Try.pinned : Pinned := { name := "ytgdldmeeaejjpaa", sum := "e76dcde232b26defb73a96fb7fd2ef3922bb3f3a124d731b689c9959ecd06e59", checked := Try.checked }
namespace Rows
def none {H : Type} : Left H := { results := [], args := [] }

/-- 'laws.FnExactPutDropHead': WHATEVER THE INPUT: true; the input reads as it did. -/
def fnExactPutDropHeadSpec : ChangeSpec := { name := "fnExactPutDropHead", fn := fun _ => fun
  | [d1, d2] => { results := [.lit (.bool true)], args := [d1, d2] }
  | _ => none }
def fnExactPutDropHeadRow : OpenClaim := { program := "ytgdldmeeaejjpaa", sum := "e76dcde232b26defb73a96fb7fd2ef3922bb3f3a124d731b689c9959ecd06e59", func := "loop.example/g00838/laws.FnExactPutDropHead", spec := "fnExactPutDropHead", unfollowed := true, recurses := true, apart := false }
def FnExactPutDropHeadSaid : Prop := fnExactPutDropHeadRow.holds Try.pinned (OpenSpec.ofChange fnExactPutDropHeadSpec)

/-- ITS FALSE NEIGHBOUR: 'it returns false'. Refute it at one input. -/
def fnExactPutDropHeadWrong : ChangeSpec := { name := "fnExactPutDropHead", fn := fun _ => fun
  | [d1, d2] => { results := [.lit (.bool false)], args := [d1, d2] }
  | _ => none }
def FnExactPutDropHeadWrongFalsely : Prop := fnExactPutDropHeadRow.holds Try.pinned (OpenSpec.ofChange fnExactPutDropHeadWrong)

/-- 'laws.FnExactRunQueue': WHATEVER THE INPUT: true; the input reads as it did. -/
def fnExactRunQueueSpec : ChangeSpec := { name := "fnExactRunQueue", fn := fun _ => fun
  | [d1, d2, d3] => { results := [.lit (.bool true)], args := [d1, d2, d3] }
  | _ => none }
def fnExactRunQueueRow : OpenClaim := { program := "ytgdldmeeaejjpaa", sum := "e76dcde232b26defb73a96fb7fd2ef3922bb3f3a124d731b689c9959ecd06e59", func := "loop.example/g00838/laws.FnExactRunQueue", spec := "fnExactRunQueue", unfollowed := true, recurses := true, apart := false }
def FnExactRunQueueSaid : Prop := fnExactRunQueueRow.holds Try.pinned (OpenSpec.ofChange fnExactRunQueueSpec)

/-- ITS FALSE NEIGHBOUR: 'it returns false'. Refute it at one input. -/
def fnExactRunQueueWrong : ChangeSpec := { name := "fnExactRunQueue", fn := fun _ => fun
  | [d1, d2, d3] => { results := [.lit (.bool false)], args := [d1, d2, d3] }
  | _ => none }
def FnExactRunQueueWrongFalsely : Prop := fnExactRunQueueRow.holds Try.pinned (OpenSpec.ofChange fnExactRunQueueWrong)

/-- 'laws.FnExactIsFair': WHATEVER THE INPUT: true; the input reads as it did. -/
def fnExactIsFairSpec : ChangeSpec := { name := "fnExactIsFair", fn := fun _ => fun
  | [d] => { results := [.lit (.bool true)], args := [d] }
  | _ => none }
def fnExactIsFairRow : OpenClaim := { program := "ytgdldmeeaejjpaa", sum := "e76dcde232b26defb73a96fb7fd2ef3922bb3f3a124d731b689c9959ecd06e59", func := "loop.example/g00838/laws.FnExactIsFair", spec := "fnExactIsFair", unfollowed := true, recurses := true, apart := false }
def FnExactIsFairSaid : Prop := fnExactIsFairRow.holds Try.pinned (OpenSpec.ofChange fnExactIsFairSpec)

/-- ITS FALSE NEIGHBOUR: 'it returns false'. Refute it at one input. -/
def fnExactIsFairWrong : ChangeSpec := { name := "fnExactIsFair", fn := fun _ => fun
  | [d] => { results := [.lit (.bool false)], args := [d] }
  | _ => none }
def FnExactIsFairWrongFalsely : Prop := fnExactIsFairRow.holds Try.pinned (OpenSpec.ofChange fnExactIsFairWrong)

/-- 'laws.FnExactRemoveFlow': WHATEVER THE INPUT: true; the input reads as it did. -/
def fnExactRemoveFlowSpec : ChangeSpec := { name := "fnExactRemoveFlow", fn := fun _ => fun
  | [d1, d2] => { results := [.lit (.bool true)], args := [d1, d2] }
  | _ => none }
def fnExactRemoveFlowRow : OpenClaim := { program := "ytgdldmeeaejjpaa", sum := "e76dcde232b26defb73a96fb7fd2ef3922bb3f3a124d731b689c9959ecd06e59", func := "loop.example/g00838/laws.FnExactRemoveFlow", spec := "fnExactRemoveFlow", unfollowed := true, recurses := true, apart := false }
def FnExactRemoveFlowSaid : Prop := fnExactRemoveFlowRow.holds Try.pinned (OpenSpec.ofChange fnExactRemoveFlowSpec)

/-- ITS FALSE NEIGHBOUR: 'it returns false'. Refute it at one input. -/
def fnExactRemoveFlowWrong : ChangeSpec := { name := "fnExactRemoveFlow", fn := fun _ => fun
  | [d1, d2] => { results := [.lit (.bool false)], args := [d1, d2] }
  | _ => none }
def FnExactRemoveFlowWrongFalsely : Prop := fnExactRemoveFlowRow.holds Try.pinned (OpenSpec.ofChange fnExactRemoveFlowWrong)

/-- 'laws.FnExactNewFair': WHATEVER THE INPUT: true; the input reads as it did. -/
def fnExactNewFairSpec : ChangeSpec := { name := "fnExactNewFair", fn := fun _ => fun
  | [d1, d2, d3] => { results := [.lit (.bool true)], args := [d1, d2, d3] }
  | _ => none }
def fnExactNewFairRow : OpenClaim := { program := "ytgdldmeeaejjpaa", sum := "e76dcde232b26defb73a96fb7fd2ef3922bb3f3a124d731b689c9959ecd06e59", func := "loop.example/g00838/laws.FnExactNewFair", spec := "fnExactNewFair", unfollowed := true, recurses := true, apart := false }
def FnExactNewFairSaid : Prop := fnExactNewFairRow.holds Try.pinned (OpenSpec.ofChange fnExactNewFairSpec)

/-- ITS FALSE NEIGHBOUR: 'it returns false'. Refute it at one input. -/
def fnExactNewFairWrong : ChangeSpec := { name := "fnExactNewFair", fn := fun _ => fun
  | [d1, d2, d3] => { results := [.lit (.bool false)], args := [d1, d2, d3] }
  | _ => none }
def FnExactNewFairWrongFalsely : Prop := fnExactNewFairRow.holds Try.pinned (OpenSpec.ofChange fnExactNewFairWrong)

/-- 'laws.FnExactRoundsFor': WHATEVER THE INPUT: true; the input reads as it did. -/
def fnExactRoundsForSpec : ChangeSpec := { name := "fnExactRoundsFor", fn := fun _ => fun
  | [d1, d2] => { results := [.lit (.bool true)], args := [d1, d2] }
  | _ => none }
def fnExactRoundsForRow : OpenClaim := { program := "ytgdldmeeaejjpaa", sum := "e76dcde232b26defb73a96fb7fd2ef3922bb3f3a124d731b689c9959ecd06e59", func := "loop.example/g00838/laws.FnExactRoundsFor", spec := "fnExactRoundsFor", unfollowed := true, recurses := true, apart := false }
def FnExactRoundsForSaid : Prop := fnExactRoundsForRow.holds Try.pinned (OpenSpec.ofChange fnExactRoundsForSpec)

/-- ITS FALSE NEIGHBOUR: 'it returns false'. Refute it at one input. -/
def fnExactRoundsForWrong : ChangeSpec := { name := "fnExactRoundsFor", fn := fun _ => fun
  | [d1, d2] => { results := [.lit (.bool false)], args := [d1, d2] }
  | _ => none }
def FnExactRoundsForWrongFalsely : Prop := fnExactRoundsForRow.holds Try.pinned (OpenSpec.ofChange fnExactRoundsForWrong)

/-- 'laws.FnExactBacklogOf': WHATEVER THE INPUT: true; the input reads as it did. -/
def fnExactBacklogOfSpec : ChangeSpec := { name := "fnExactBacklogOf", fn := fun _ => fun
  | [d] => { results := [.lit (.bool true)], args := [d] }
  | _ => none }
def fnExactBacklogOfRow : OpenClaim := { program := "ytgdldmeeaejjpaa", sum := "e76dcde232b26defb73a96fb7fd2ef3922bb3f3a124d731b689c9959ecd06e59", func := "loop.example/g00838/laws.FnExactBacklogOf", spec := "fnExactBacklogOf", unfollowed := true, recurses := true, apart := false }
def FnExactBacklogOfSaid : Prop := fnExactBacklogOfRow.holds Try.pinned (OpenSpec.ofChange fnExactBacklogOfSpec)

/-- ITS FALSE NEIGHBOUR: 'it returns false'. Refute it at one input. -/
def fnExactBacklogOfWrong : ChangeSpec := { name := "fnExactBacklogOf", fn := fun _ => fun
  | [d] => { results := [.lit (.bool false)], args := [d] }
  | _ => none }
def FnExactBacklogOfWrongFalsely : Prop := fnExactBacklogOfRow.holds Try.pinned (OpenSpec.ofChange fnExactBacklogOfWrong)

/-- 'laws.FnExactDropFlow': WHATEVER THE INPUT: true; the input reads as it did. -/
def fnExactDropFlowSpec : ChangeSpec := { name := "fnExactDropFlow", fn := fun _ => fun
  | [d1, d2] => { results := [.lit (.bool true)], args := [d1, d2] }
  | _ => none }
def fnExactDropFlowRow : OpenClaim := { program := "ytgdldmeeaejjpaa", sum := "e76dcde232b26defb73a96fb7fd2ef3922bb3f3a124d731b689c9959ecd06e59", func := "loop.example/g00838/laws.FnExactDropFlow", spec := "fnExactDropFlow", unfollowed := true, recurses := true, apart := false }
def FnExactDropFlowSaid : Prop := fnExactDropFlowRow.holds Try.pinned (OpenSpec.ofChange fnExactDropFlowSpec)

/-- ITS FALSE NEIGHBOUR: 'it returns false'. Refute it at one input. -/
def fnExactDropFlowWrong : ChangeSpec := { name := "fnExactDropFlow", fn := fun _ => fun
  | [d1, d2] => { results := [.lit (.bool false)], args := [d1, d2] }
  | _ => none }
def FnExactDropFlowWrongFalsely : Prop := fnExactDropFlowRow.holds Try.pinned (OpenSpec.ofChange fnExactDropFlowWrong)

/-- 'laws.FnExactPutFair': WHATEVER THE INPUT: true; the input reads as it did. -/
def fnExactPutFairSpec : ChangeSpec := { name := "fnExactPutFair", fn := fun _ => fun
  | [d1, d2] => { results := [.lit (.bool true)], args := [d1, d2] }
  | _ => none }
def fnExactPutFairRow : OpenClaim := { program := "ytgdldmeeaejjpaa", sum := "e76dcde232b26defb73a96fb7fd2ef3922bb3f3a124d731b689c9959ecd06e59", func := "loop.example/g00838/laws.FnExactPutFair", spec := "fnExactPutFair", unfollowed := true, recurses := true, apart := false }
def FnExactPutFairSaid : Prop := fnExactPutFairRow.holds Try.pinned (OpenSpec.ofChange fnExactPutFairSpec)

/-- ITS FALSE NEIGHBOUR: 'it returns false'. Refute it at one input. -/
def fnExactPutFairWrong : ChangeSpec := { name := "fnExactPutFair", fn := fun _ => fun
  | [d1, d2] => { results := [.lit (.bool false)], args := [d1, d2] }
  | _ => none }
def FnExactPutFairWrongFalsely : Prop := fnExactPutFairRow.holds Try.pinned (OpenSpec.ofChange fnExactPutFairWrong)

/- THE SECOND FORM. 'bulk': how many values and letters a reading holds, each counted each time it is reached (what is shared counts as often as it is met; a slice's spare places count too). A statement '..UptoSaid' is the law's where the arguments, and the package variables that the reading takes, are together of bulk at most 1048576: NARROWER than '..Said'. Prove '..Said' where nothing that the law and all that it calls make is longer than what came in: it says more and counts as full. Else prove '..UptoSaid'. A law counts once. -/
mutual
def uptoBulk {H : Type} : DataW H → Nat
  | .lit (.string bytes) => bytes.length + 1
  | .lit _ => 1
  | .nil => 1
  | .ptr d => uptoBulk d + 1
  | .slice elems spare => uptoBulkAll elems + uptoBulkAll spare + 1
  | .agg parts => uptoBulkAll parts + 1
  | .iface _ d => uptoBulk d + 1
  | .map entries => uptoBulkEntries entries + 1
  | .held _ => 1
def uptoBulkAll {H : Type} : List (DataW H) → Nat
  | [] => 0
  | d :: r => uptoBulk d + uptoBulkAll r
def uptoBulkEntries {H : Type} : List (Lit × DataW H) → Nat
  | [] => 0
  | x :: r => uptoBulkEntry x + uptoBulkEntries r
def uptoBulkEntry {H : Type} : Lit × DataW H → Nat
  | (.string bytes, d) => bytes.length + uptoBulk d + 1
  | (_, d) => uptoBulk d + 1
 end
def uptoSmall : (H : Type) → List (DataW H) → Bool := fun _ ds => decide (uptoBulkAll ds ≤ 1048576)
def OpenSpec.upto (s : _root_.Go.ChangeSpec) : _root_.Go.OpenSpec := { _root_.Go.OpenSpec.ofChange s with cond := some uptoSmall }

/-- 'laws.FnExactPutDropHead', WHERE WHAT IT READS IS OF BULK AT MOST 1048576: true; the input reads as it did. -/
def fnExactPutDropHeadUptoRow : OpenClaim := { program := "ytgdldmeeaejjpaa", sum := "e76dcde232b26defb73a96fb7fd2ef3922bb3f3a124d731b689c9959ecd06e59", func := "loop.example/g00838/laws.FnExactPutDropHead", spec := "fnExactPutDropHead", unfollowed := true, recurses := true, apart := false, narrowed := true }
def FnExactPutDropHeadUptoSaid : Prop := fnExactPutDropHeadUptoRow.holds Try.pinned (OpenSpec.upto fnExactPutDropHeadSpec)

/-- 'laws.FnExactRunQueue', WHERE WHAT IT READS IS OF BULK AT MOST 1048576: true; the input reads as it did. -/
def fnExactRunQueueUptoRow : OpenClaim := { program := "ytgdldmeeaejjpaa", sum := "e76dcde232b26defb73a96fb7fd2ef3922bb3f3a124d731b689c9959ecd06e59", func := "loop.example/g00838/laws.FnExactRunQueue", spec := "fnExactRunQueue", unfollowed := true, recurses := true, apart := false, narrowed := true }
def FnExactRunQueueUptoSaid : Prop := fnExactRunQueueUptoRow.holds Try.pinned (OpenSpec.upto fnExactRunQueueSpec)

/-- 'laws.FnExactIsFair', WHERE WHAT IT READS IS OF BULK AT MOST 1048576: true; the input reads as it did. -/
def fnExactIsFairUptoRow : OpenClaim := { program := "ytgdldmeeaejjpaa", sum := "e76dcde232b26defb73a96fb7fd2ef3922bb3f3a124d731b689c9959ecd06e59", func := "loop.example/g00838/laws.FnExactIsFair", spec := "fnExactIsFair", unfollowed := true, recurses := true, apart := false, narrowed := true }
def FnExactIsFairUptoSaid : Prop := fnExactIsFairUptoRow.holds Try.pinned (OpenSpec.upto fnExactIsFairSpec)

/-- 'laws.FnExactRemoveFlow', WHERE WHAT IT READS IS OF BULK AT MOST 1048576: true; the input reads as it did. -/
def fnExactRemoveFlowUptoRow : OpenClaim := { program := "ytgdldmeeaejjpaa", sum := "e76dcde232b26defb73a96fb7fd2ef3922bb3f3a124d731b689c9959ecd06e59", func := "loop.example/g00838/laws.FnExactRemoveFlow", spec := "fnExactRemoveFlow", unfollowed := true, recurses := true, apart := false, narrowed := true }
def FnExactRemoveFlowUptoSaid : Prop := fnExactRemoveFlowUptoRow.holds Try.pinned (OpenSpec.upto fnExactRemoveFlowSpec)

/-- 'laws.FnExactNewFair', WHERE WHAT IT READS IS OF BULK AT MOST 1048576: true; the input reads as it did. -/
def fnExactNewFairUptoRow : OpenClaim := { program := "ytgdldmeeaejjpaa", sum := "e76dcde232b26defb73a96fb7fd2ef3922bb3f3a124d731b689c9959ecd06e59", func := "loop.example/g00838/laws.FnExactNewFair", spec := "fnExactNewFair", unfollowed := true, recurses := true, apart := false, narrowed := true }
def FnExactNewFairUptoSaid : Prop := fnExactNewFairUptoRow.holds Try.pinned (OpenSpec.upto fnExactNewFairSpec)

/-- 'laws.FnExactRoundsFor', WHERE WHAT IT READS IS OF BULK AT MOST 1048576: true; the input reads as it did. -/
def fnExactRoundsForUptoRow : OpenClaim := { program := "ytgdldmeeaejjpaa", sum := "e76dcde232b26defb73a96fb7fd2ef3922bb3f3a124d731b689c9959ecd06e59", func := "loop.example/g00838/laws.FnExactRoundsFor", spec := "fnExactRoundsFor", unfollowed := true, recurses := true, apart := false, narrowed := true }
def FnExactRoundsForUptoSaid : Prop := fnExactRoundsForUptoRow.holds Try.pinned (OpenSpec.upto fnExactRoundsForSpec)

/-- 'laws.FnExactBacklogOf', WHERE WHAT IT READS IS OF BULK AT MOST 1048576: true; the input reads as it did. -/
def fnExactBacklogOfUptoRow : OpenClaim := { program := "ytgdldmeeaejjpaa", sum := "e76dcde232b26defb73a96fb7fd2ef3922bb3f3a124d731b689c9959ecd06e59", func := "loop.example/g00838/laws.FnExactBacklogOf", spec := "fnExactBacklogOf", unfollowed := true, recurses := true, apart := false, narrowed := true }
def FnExactBacklogOfUptoSaid : Prop := fnExactBacklogOfUptoRow.holds Try.pinned (OpenSpec.upto fnExactBacklogOfSpec)

/-- 'laws.FnExactDropFlow', WHERE WHAT IT READS IS OF BULK AT MOST 1048576: true; the input reads as it did. -/
def fnExactDropFlowUptoRow : OpenClaim := { program := "ytgdldmeeaejjpaa", sum := "e76dcde232b26defb73a96fb7fd2ef3922bb3f3a124d731b689c9959ecd06e59", func := "loop.example/g00838/laws.FnExactDropFlow", spec := "fnExactDropFlow", unfollowed := true, recurses := true, apart := false, narrowed := true }
def FnExactDropFlowUptoSaid : Prop := fnExactDropFlowUptoRow.holds Try.pinned (OpenSpec.upto fnExactDropFlowSpec)

/-- 'laws.FnExactPutFair', WHERE WHAT IT READS IS OF BULK AT MOST 1048576: true; the input reads as it did. -/
def fnExactPutFairUptoRow : OpenClaim := { program := "ytgdldmeeaejjpaa", sum := "e76dcde232b26defb73a96fb7fd2ef3922bb3f3a124d731b689c9959ecd06e59", func := "loop.example/g00838/laws.FnExactPutFair", spec := "fnExactPutFair", unfollowed := true, recurses := true, apart := false, narrowed := true }
def FnExactPutFairUptoSaid : Prop := fnExactPutFairUptoRow.holds Try.pinned (OpenSpec.upto fnExactPutFairSpec)

end Rows
end Go.Proofs.Ytgdldmeeaejjpaa
