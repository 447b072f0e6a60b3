/-
  No cell of these rows narrows 'for every input' (looked for: loops, veiled, ifaces, maps, wideKeys, modest, calm, conditions, laid).
  DERIVED. THE GIVEN ROWS OF THIS SEAT. 11 by the template 'for every input the law returns true; each argument reads behind the call as it read before'; 0 by the template 'total and deterministic' (their statements: YtleknfigikpacaaTotals.lean).
  GIVEN WITH THE SEED: the statements are not yours to turn. If you find one false, say at which input.
  Laid BY PROGRAM, IN A SANDBOX (cutbox-rows.mjs): the forced cells as the released guide's own fill.sh prints them over the translation 4094fa18a5911006… (all of the seat's roots in one cut). By AI agents, Wed Nov 11 2026. No macro, syntax, notation, axiom, sorry.
-/
import Derived.Test.YtleknfigikpacaaChecked
import GoSem.Claim
import GoSem.ClaimJoined
import GoSem.ClaimMapViews
import Derived.JoinedTies
import Derived.KernelRfl
namespace Go.Proofs.Ytleknfigikpacaa
/- THE CELL 'sum', in the pinned program and in every row, IS THE sha256 OF THE DUMP (.gsa) THAT YtleknfigikpacaaProg.lean LOADS. Nothing in Lean hashes anything: it is a label: what it is worth is what the hold of that sum in a sandbox is worth. -/
noncomputable def Try.pinned : Pinned := { name := "ytleknfigikpacaa", sum := "4094fa18a5911006244e89e76141d40b32f08e54f2b23b2f6789b96acfcb3ce6", checked := Try.checked }
namespace Rows
def none {H : Type} : Left H := { results := [], args := [] }

/-- 'laws.FnExactIsBucket': WHATEVER THE INPUT: true; the input reads as it did. -/
def fnExactIsBucketSpec : ChangeSpec := { name := "fnExactIsBucket", fn := fun _ => fun
  | [d] => { results := [.lit (.bool true)], args := [d] }
  | _ => none }
def fnExactIsBucketRow : OpenClaim := { program := "ytleknfigikpacaa", sum := "4094fa18a5911006244e89e76141d40b32f08e54f2b23b2f6789b96acfcb3ce6", func := "loop.example/g00838/laws.FnExactIsBucket", spec := "fnExactIsBucket", apart := false }
def FnExactIsBucketSaid : Prop := fnExactIsBucketRow.holds Try.pinned (OpenSpec.ofChange fnExactIsBucketSpec)

/-- ITS FALSE NEIGHBOUR: 'it returns false'. Refute it at one input. -/
def fnExactIsBucketWrong : ChangeSpec := { name := "fnExactIsBucket", fn := fun _ => fun
  | [d] => { results := [.lit (.bool false)], args := [d] }
  | _ => none }
def FnExactIsBucketWrongFalsely : Prop := fnExactIsBucketRow.holds Try.pinned (OpenSpec.ofChange fnExactIsBucketWrong)

/-- 'laws.FnExactCanSpend': WHATEVER THE INPUT: true; the input reads as it did. -/
def fnExactCanSpendSpec : ChangeSpec := { name := "fnExactCanSpend", fn := fun _ => fun
  | [d1, d2] => { results := [.lit (.bool true)], args := [d1, d2] }
  | _ => none }
def fnExactCanSpendRow : OpenClaim := { program := "ytleknfigikpacaa", sum := "4094fa18a5911006244e89e76141d40b32f08e54f2b23b2f6789b96acfcb3ce6", func := "loop.example/g00838/laws.FnExactCanSpend", spec := "fnExactCanSpend", apart := false }
def FnExactCanSpendSaid : Prop := fnExactCanSpendRow.holds Try.pinned (OpenSpec.ofChange fnExactCanSpendSpec)

/-- ITS FALSE NEIGHBOUR: 'it returns false'. Refute it at one input. -/
def fnExactCanSpendWrong : ChangeSpec := { name := "fnExactCanSpend", fn := fun _ => fun
  | [d1, d2] => { results := [.lit (.bool false)], args := [d1, d2] }
  | _ => none }
def FnExactCanSpendWrongFalsely : Prop := fnExactCanSpendRow.holds Try.pinned (OpenSpec.ofChange fnExactCanSpendWrong)

/-- 'laws.FnExactFullBucket': WHATEVER THE INPUT: true; the input reads as it did. -/
def fnExactFullBucketSpec : ChangeSpec := { name := "fnExactFullBucket", fn := fun _ => fun
  | [d1, d2] => { results := [.lit (.bool true)], args := [d1, d2] }
  | _ => none }
def fnExactFullBucketRow : OpenClaim := { program := "ytleknfigikpacaa", sum := "4094fa18a5911006244e89e76141d40b32f08e54f2b23b2f6789b96acfcb3ce6", func := "loop.example/g00838/laws.FnExactFullBucket", spec := "fnExactFullBucket", apart := false }
def FnExactFullBucketSaid : Prop := fnExactFullBucketRow.holds Try.pinned (OpenSpec.ofChange fnExactFullBucketSpec)

/-- ITS FALSE NEIGHBOUR: 'it returns false'. Refute it at one input. -/
def fnExactFullBucketWrong : ChangeSpec := { name := "fnExactFullBucket", fn := fun _ => fun
  | [d1, d2] => { results := [.lit (.bool false)], args := [d1, d2] }
  | _ => none }
def FnExactFullBucketWrongFalsely : Prop := fnExactFullBucketRow.holds Try.pinned (OpenSpec.ofChange fnExactFullBucketWrong)

/-- 'laws.FnExactSpendFrom': WHATEVER THE INPUT: true; the input reads as it did. -/
def fnExactSpendFromSpec : ChangeSpec := { name := "fnExactSpendFrom", fn := fun _ => fun
  | [d1, d2] => { results := [.lit (.bool true)], args := [d1, d2] }
  | _ => none }
def fnExactSpendFromRow : OpenClaim := { program := "ytleknfigikpacaa", sum := "4094fa18a5911006244e89e76141d40b32f08e54f2b23b2f6789b96acfcb3ce6", func := "loop.example/g00838/laws.FnExactSpendFrom", spec := "fnExactSpendFrom", apart := false }
def FnExactSpendFromSaid : Prop := fnExactSpendFromRow.holds Try.pinned (OpenSpec.ofChange fnExactSpendFromSpec)

/-- ITS FALSE NEIGHBOUR: 'it returns false'. Refute it at one input. -/
def fnExactSpendFromWrong : ChangeSpec := { name := "fnExactSpendFrom", fn := fun _ => fun
  | [d1, d2] => { results := [.lit (.bool false)], args := [d1, d2] }
  | _ => none }
def FnExactSpendFromWrongFalsely : Prop := fnExactSpendFromRow.holds Try.pinned (OpenSpec.ofChange fnExactSpendFromWrong)

/-- 'laws.FnExactTicksToFull': WHATEVER THE INPUT: true; the input reads as it did. -/
def fnExactTicksToFullSpec : ChangeSpec := { name := "fnExactTicksToFull", fn := fun _ => fun
  | [d] => { results := [.lit (.bool true)], args := [d] }
  | _ => none }
def fnExactTicksToFullRow : OpenClaim := { program := "ytleknfigikpacaa", sum := "4094fa18a5911006244e89e76141d40b32f08e54f2b23b2f6789b96acfcb3ce6", func := "loop.example/g00838/laws.FnExactTicksToFull", spec := "fnExactTicksToFull", apart := false }
def FnExactTicksToFullSaid : Prop := fnExactTicksToFullRow.holds Try.pinned (OpenSpec.ofChange fnExactTicksToFullSpec)

/-- ITS FALSE NEIGHBOUR: 'it returns false'. Refute it at one input. -/
def fnExactTicksToFullWrong : ChangeSpec := { name := "fnExactTicksToFull", fn := fun _ => fun
  | [d] => { results := [.lit (.bool false)], args := [d] }
  | _ => none }
def FnExactTicksToFullWrongFalsely : Prop := fnExactTicksToFullRow.holds Try.pinned (OpenSpec.ofChange fnExactTicksToFullWrong)

/-- 'laws.FnExactWaitFor': WHATEVER THE INPUT: true; the input reads as it did. -/
def fnExactWaitForSpec : ChangeSpec := { name := "fnExactWaitFor", fn := fun _ => fun
  | [d1, d2] => { results := [.lit (.bool true)], args := [d1, d2] }
  | _ => none }
def fnExactWaitForRow : OpenClaim := { program := "ytleknfigikpacaa", sum := "4094fa18a5911006244e89e76141d40b32f08e54f2b23b2f6789b96acfcb3ce6", func := "loop.example/g00838/laws.FnExactWaitFor", spec := "fnExactWaitFor", apart := false }
def FnExactWaitForSaid : Prop := fnExactWaitForRow.holds Try.pinned (OpenSpec.ofChange fnExactWaitForSpec)

/-- ITS FALSE NEIGHBOUR: 'it returns false'. Refute it at one input. -/
def fnExactWaitForWrong : ChangeSpec := { name := "fnExactWaitFor", fn := fun _ => fun
  | [d1, d2] => { results := [.lit (.bool false)], args := [d1, d2] }
  | _ => none }
def FnExactWaitForWrongFalsely : Prop := fnExactWaitForRow.holds Try.pinned (OpenSpec.ofChange fnExactWaitForWrong)

/-- 'laws.FnExactFillBucket': WHATEVER THE INPUT: true; the input reads as it did. -/
def fnExactFillBucketSpec : ChangeSpec := { name := "fnExactFillBucket", fn := fun _ => fun
  | [d1, d2] => { results := [.lit (.bool true)], args := [d1, d2] }
  | _ => none }
def fnExactFillBucketRow : OpenClaim := { program := "ytleknfigikpacaa", sum := "4094fa18a5911006244e89e76141d40b32f08e54f2b23b2f6789b96acfcb3ce6", func := "loop.example/g00838/laws.FnExactFillBucket", spec := "fnExactFillBucket", apart := false }
def FnExactFillBucketSaid : Prop := fnExactFillBucketRow.holds Try.pinned (OpenSpec.ofChange fnExactFillBucketSpec)

/-- ITS FALSE NEIGHBOUR: 'it returns false'. Refute it at one input. -/
def fnExactFillBucketWrong : ChangeSpec := { name := "fnExactFillBucket", fn := fun _ => fun
  | [d1, d2] => { results := [.lit (.bool false)], args := [d1, d2] }
  | _ => none }
def FnExactFillBucketWrongFalsely : Prop := fnExactFillBucketRow.holds Try.pinned (OpenSpec.ofChange fnExactFillBucketWrong)

/-- 'laws.FnExactWorstWindow': WHATEVER THE INPUT: true; the input reads as it did. -/
def fnExactWorstWindowSpec : ChangeSpec := { name := "fnExactWorstWindow", fn := fun _ => fun
  | [d1, d2] => { results := [.lit (.bool true)], args := [d1, d2] }
  | _ => none }
def fnExactWorstWindowRow : OpenClaim := { program := "ytleknfigikpacaa", sum := "4094fa18a5911006244e89e76141d40b32f08e54f2b23b2f6789b96acfcb3ce6", func := "loop.example/g00838/laws.FnExactWorstWindow", spec := "fnExactWorstWindow", apart := false }
def FnExactWorstWindowSaid : Prop := fnExactWorstWindowRow.holds Try.pinned (OpenSpec.ofChange fnExactWorstWindowSpec)

/-- ITS FALSE NEIGHBOUR: 'it returns false'. Refute it at one input. -/
def fnExactWorstWindowWrong : ChangeSpec := { name := "fnExactWorstWindow", fn := fun _ => fun
  | [d1, d2] => { results := [.lit (.bool false)], args := [d1, d2] }
  | _ => none }
def FnExactWorstWindowWrongFalsely : Prop := fnExactWorstWindowRow.holds Try.pinned (OpenSpec.ofChange fnExactWorstWindowWrong)

/-- 'laws.FnExactLeastCap': WHATEVER THE INPUT: true; the input reads as it did. -/
def fnExactLeastCapSpec : ChangeSpec := { name := "fnExactLeastCap", fn := fun _ => fun
  | [d1, d2] => { results := [.lit (.bool true)], args := [d1, d2] }
  | _ => none }
def fnExactLeastCapRow : OpenClaim := { program := "ytleknfigikpacaa", sum := "4094fa18a5911006244e89e76141d40b32f08e54f2b23b2f6789b96acfcb3ce6", func := "loop.example/g00838/laws.FnExactLeastCap", spec := "fnExactLeastCap", unfollowed := true, recurses := true, apart := false }
def FnExactLeastCapSaid : Prop := fnExactLeastCapRow.holds Try.pinned (OpenSpec.ofChange fnExactLeastCapSpec)

/-- ITS FALSE NEIGHBOUR: 'it returns false'. Refute it at one input. -/
def fnExactLeastCapWrong : ChangeSpec := { name := "fnExactLeastCap", fn := fun _ => fun
  | [d1, d2] => { results := [.lit (.bool false)], args := [d1, d2] }
  | _ => none }
def FnExactLeastCapWrongFalsely : Prop := fnExactLeastCapRow.holds Try.pinned (OpenSpec.ofChange fnExactLeastCapWrong)

/-- 'laws.FnExactConforms': WHATEVER THE INPUT: true; the input reads as it did. -/
def fnExactConformsSpec : ChangeSpec := { name := "fnExactConforms", fn := fun _ => fun
  | [d1, d2] => { results := [.lit (.bool true)], args := [d1, d2] }
  | _ => none }
def fnExactConformsRow : OpenClaim := { program := "ytleknfigikpacaa", sum := "4094fa18a5911006244e89e76141d40b32f08e54f2b23b2f6789b96acfcb3ce6", func := "loop.example/g00838/laws.FnExactConforms", spec := "fnExactConforms", apart := false }
def FnExactConformsSaid : Prop := fnExactConformsRow.holds Try.pinned (OpenSpec.ofChange fnExactConformsSpec)

/-- ITS FALSE NEIGHBOUR: 'it returns false'. Refute it at one input. -/
def fnExactConformsWrong : ChangeSpec := { name := "fnExactConforms", fn := fun _ => fun
  | [d1, d2] => { results := [.lit (.bool false)], args := [d1, d2] }
  | _ => none }
def FnExactConformsWrongFalsely : Prop := fnExactConformsRow.holds Try.pinned (OpenSpec.ofChange fnExactConformsWrong)

/-- 'laws.FnExactRunBucket': WHATEVER THE INPUT: true; the input reads as it did. -/
def fnExactRunBucketSpec : ChangeSpec := { name := "fnExactRunBucket", fn := fun _ => fun
  | [d1, d2] => { results := [.lit (.bool true)], args := [d1, d2] }
  | _ => none }
def fnExactRunBucketRow : OpenClaim := { program := "ytleknfigikpacaa", sum := "4094fa18a5911006244e89e76141d40b32f08e54f2b23b2f6789b96acfcb3ce6", func := "loop.example/g00838/laws.FnExactRunBucket", spec := "fnExactRunBucket", apart := false }
def FnExactRunBucketSaid : Prop := fnExactRunBucketRow.holds Try.pinned (OpenSpec.ofChange fnExactRunBucketSpec)

/-- ITS FALSE NEIGHBOUR: 'it returns false'. Refute it at one input. -/
def fnExactRunBucketWrong : ChangeSpec := { name := "fnExactRunBucket", fn := fun _ => fun
  | [d1, d2] => { results := [.lit (.bool false)], args := [d1, d2] }
  | _ => none }
def FnExactRunBucketWrongFalsely : Prop := fnExactRunBucketRow.holds Try.pinned (OpenSpec.ofChange fnExactRunBucketWrong)

/- THE SECOND FORM. 'bulk': how many values and letters a reading holds, each counted each time it is reached (what is shared counts as often as it is met; a slice's spare places count too). A statement '..UptoSaid' is the law's where the arguments, and the package variables that the reading takes, are together of bulk at most 1048576: NARROWER than '..Said'. Prove '..Said' where nothing that the law and all that it calls make is longer than what came in: it says more and counts as full. Else prove '..UptoSaid'. A law counts once. -/
mutual
def uptoBulk {H : Type} : DataW H → Nat
  | .lit (.string bytes) => bytes.length + 1
  | .lit _ => 1
  | .nil => 1
  | .ptr d => uptoBulk d + 1
  | .slice elems spare => uptoBulkAll elems + uptoBulkAll spare + 1
  | .agg parts => uptoBulkAll parts + 1
  | .iface _ d => uptoBulk d + 1
  | .map entries => uptoBulkEntries entries + 1
  | .held _ => 1
def uptoBulkAll {H : Type} : List (DataW H) → Nat
  | [] => 0
  | d :: r => uptoBulk d + uptoBulkAll r
def uptoBulkEntries {H : Type} : List (Lit × DataW H) → Nat
  | [] => 0
  | x :: r => uptoBulkEntry x + uptoBulkEntries r
def uptoBulkEntry {H : Type} : Lit × DataW H → Nat
  | (.string bytes, d) => bytes.length + uptoBulk d + 1
  | (_, d) => uptoBulk d + 1
 end
def uptoSmall : (H : Type) → List (DataW H) → Bool := fun _ ds => decide (uptoBulkAll ds ≤ 1048576)
def OpenSpec.upto (s : _root_.Go.ChangeSpec) : _root_.Go.OpenSpec := { _root_.Go.OpenSpec.ofChange s with cond := some uptoSmall }

/-- 'laws.FnExactIsBucket', WHERE WHAT IT READS IS OF BULK AT MOST 1048576: true; the input reads as it did. -/
def fnExactIsBucketUptoRow : OpenClaim := { program := "ytleknfigikpacaa", sum := "4094fa18a5911006244e89e76141d40b32f08e54f2b23b2f6789b96acfcb3ce6", func := "loop.example/g00838/laws.FnExactIsBucket", spec := "fnExactIsBucket", apart := false, narrowed := true }
def FnExactIsBucketUptoSaid : Prop := fnExactIsBucketUptoRow.holds Try.pinned (OpenSpec.upto fnExactIsBucketSpec)

/-- 'laws.FnExactCanSpend', WHERE WHAT IT READS IS OF BULK AT MOST 1048576: true; the input reads as it did. -/
def fnExactCanSpendUptoRow : OpenClaim := { program := "ytleknfigikpacaa", sum := "4094fa18a5911006244e89e76141d40b32f08e54f2b23b2f6789b96acfcb3ce6", func := "loop.example/g00838/laws.FnExactCanSpend", spec := "fnExactCanSpend", apart := false, narrowed := true }
def FnExactCanSpendUptoSaid : Prop := fnExactCanSpendUptoRow.holds Try.pinned (OpenSpec.upto fnExactCanSpendSpec)

/-- 'laws.FnExactFullBucket', WHERE WHAT IT READS IS OF BULK AT MOST 1048576: true; the input reads as it did. -/
def fnExactFullBucketUptoRow : OpenClaim := { program := "ytleknfigikpacaa", sum := "4094fa18a5911006244e89e76141d40b32f08e54f2b23b2f6789b96acfcb3ce6", func := "loop.example/g00838/laws.FnExactFullBucket", spec := "fnExactFullBucket", apart := false, narrowed := true }
def FnExactFullBucketUptoSaid : Prop := fnExactFullBucketUptoRow.holds Try.pinned (OpenSpec.upto fnExactFullBucketSpec)

/-- 'laws.FnExactSpendFrom', WHERE WHAT IT READS IS OF BULK AT MOST 1048576: true; the input reads as it did. -/
def fnExactSpendFromUptoRow : OpenClaim := { program := "ytleknfigikpacaa", sum := "4094fa18a5911006244e89e76141d40b32f08e54f2b23b2f6789b96acfcb3ce6", func := "loop.example/g00838/laws.FnExactSpendFrom", spec := "fnExactSpendFrom", apart := false, narrowed := true }
def FnExactSpendFromUptoSaid : Prop := fnExactSpendFromUptoRow.holds Try.pinned (OpenSpec.upto fnExactSpendFromSpec)

/-- 'laws.FnExactTicksToFull', WHERE WHAT IT READS IS OF BULK AT MOST 1048576: true; the input reads as it did. -/
def fnExactTicksToFullUptoRow : OpenClaim := { program := "ytleknfigikpacaa", sum := "4094fa18a5911006244e89e76141d40b32f08e54f2b23b2f6789b96acfcb3ce6", func := "loop.example/g00838/laws.FnExactTicksToFull", spec := "fnExactTicksToFull", apart := false, narrowed := true }
def FnExactTicksToFullUptoSaid : Prop := fnExactTicksToFullUptoRow.holds Try.pinned (OpenSpec.upto fnExactTicksToFullSpec)

/-- 'laws.FnExactWaitFor', WHERE WHAT IT READS IS OF BULK AT MOST 1048576: true; the input reads as it did. -/
def fnExactWaitForUptoRow : OpenClaim := { program := "ytleknfigikpacaa", sum := "4094fa18a5911006244e89e76141d40b32f08e54f2b23b2f6789b96acfcb3ce6", func := "loop.example/g00838/laws.FnExactWaitFor", spec := "fnExactWaitFor", apart := false, narrowed := true }
def FnExactWaitForUptoSaid : Prop := fnExactWaitForUptoRow.holds Try.pinned (OpenSpec.upto fnExactWaitForSpec)

/-- 'laws.FnExactFillBucket', WHERE WHAT IT READS IS OF BULK AT MOST 1048576: true; the input reads as it did. -/
def fnExactFillBucketUptoRow : OpenClaim := { program := "ytleknfigikpacaa", sum := "4094fa18a5911006244e89e76141d40b32f08e54f2b23b2f6789b96acfcb3ce6", func := "loop.example/g00838/laws.FnExactFillBucket", spec := "fnExactFillBucket", apart := false, narrowed := true }
def FnExactFillBucketUptoSaid : Prop := fnExactFillBucketUptoRow.holds Try.pinned (OpenSpec.upto fnExactFillBucketSpec)

/-- 'laws.FnExactWorstWindow', WHERE WHAT IT READS IS OF BULK AT MOST 1048576: true; the input reads as it did. -/
def fnExactWorstWindowUptoRow : OpenClaim := { program := "ytleknfigikpacaa", sum := "4094fa18a5911006244e89e76141d40b32f08e54f2b23b2f6789b96acfcb3ce6", func := "loop.example/g00838/laws.FnExactWorstWindow", spec := "fnExactWorstWindow", apart := false, narrowed := true }
def FnExactWorstWindowUptoSaid : Prop := fnExactWorstWindowUptoRow.holds Try.pinned (OpenSpec.upto fnExactWorstWindowSpec)

/-- 'laws.FnExactLeastCap', WHERE WHAT IT READS IS OF BULK AT MOST 1048576: true; the input reads as it did. -/
def fnExactLeastCapUptoRow : OpenClaim := { program := "ytleknfigikpacaa", sum := "4094fa18a5911006244e89e76141d40b32f08e54f2b23b2f6789b96acfcb3ce6", func := "loop.example/g00838/laws.FnExactLeastCap", spec := "fnExactLeastCap", unfollowed := true, recurses := true, apart := false, narrowed := true }
def FnExactLeastCapUptoSaid : Prop := fnExactLeastCapUptoRow.holds Try.pinned (OpenSpec.upto fnExactLeastCapSpec)

/-- 'laws.FnExactConforms', WHERE WHAT IT READS IS OF BULK AT MOST 1048576: true; the input reads as it did. -/
def fnExactConformsUptoRow : OpenClaim := { program := "ytleknfigikpacaa", sum := "4094fa18a5911006244e89e76141d40b32f08e54f2b23b2f6789b96acfcb3ce6", func := "loop.example/g00838/laws.FnExactConforms", spec := "fnExactConforms", apart := false, narrowed := true }
def FnExactConformsUptoSaid : Prop := fnExactConformsUptoRow.holds Try.pinned (OpenSpec.upto fnExactConformsSpec)

/-- 'laws.FnExactRunBucket', WHERE WHAT IT READS IS OF BULK AT MOST 1048576: true; the input reads as it did. -/
def fnExactRunBucketUptoRow : OpenClaim := { program := "ytleknfigikpacaa", sum := "4094fa18a5911006244e89e76141d40b32f08e54f2b23b2f6789b96acfcb3ce6", func := "loop.example/g00838/laws.FnExactRunBucket", spec := "fnExactRunBucket", apart := false, narrowed := true }
def FnExactRunBucketUptoSaid : Prop := fnExactRunBucketUptoRow.holds Try.pinned (OpenSpec.upto fnExactRunBucketSpec)

end Rows
end Go.Proofs.Ytleknfigikpacaa
