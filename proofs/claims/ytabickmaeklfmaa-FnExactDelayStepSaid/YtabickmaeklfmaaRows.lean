/-
  No cell of these rows narrows 'for every input' (looked for: loops, veiled, ifaces, maps, wideKeys, modest, calm, conditions, laid).
  DERIVED. THE GIVEN ROWS OF THIS SEAT. 9 by the template 'for every input the law returns true; each argument reads behind the call as it read before'; 0 by the template 'total and deterministic' (their statements: YtabickmaeklfmaaTotals.lean).
  GIVEN WITH THE SEED: the statements are not yours to turn. If you find one false, say at which input.
  Laid BY PROGRAM, IN A SANDBOX (cutbox-rows.mjs): the forced cells as the released guide's own fill.sh prints them over the translation 97685ea632c49223… (all of the seat's roots in one cut). By AI agents, Wed Nov 11 2026. No macro, syntax, notation, axiom, sorry.
-/
import Derived.Test.YtabickmaeklfmaaChecked
import GoSem.Claim
import GoSem.ClaimJoined
import GoSem.ClaimMapViews
import Derived.JoinedTies
import Derived.KernelRfl
namespace Go.Proofs.Ytabickmaeklfmaa
/- THE CELL 'sum', in the pinned program and in every row, IS THE sha256 OF THE DUMP (.gsa) THAT YtabickmaeklfmaaProg.lean LOADS. Nothing in Lean hashes anything: it is a label: what it is worth is what the hold of that sum in a sandbox is worth. -/
noncomputable def Try.pinned : Pinned := { name := "ytabickmaeklfmaa", sum := "97685ea632c492235d06e8781bcae86ef367f53c68f4b342e329cf755ca104e3", checked := Try.checked }
namespace Rows
def none {H : Type} : Left H := { results := [], args := [] }

/-- 'laws.FnExactIsDelay': WHATEVER THE INPUT: true; the input reads as it did. -/
def fnExactIsDelaySpec : ChangeSpec := { name := "fnExactIsDelay", fn := fun _ => fun
  | [d] => { results := [.lit (.bool true)], args := [d] }
  | _ => none }
def fnExactIsDelayRow : OpenClaim := { program := "ytabickmaeklfmaa", sum := "97685ea632c492235d06e8781bcae86ef367f53c68f4b342e329cf755ca104e3", func := "loop.example/g00838/laws.FnExactIsDelay", spec := "fnExactIsDelay", apart := false }
def FnExactIsDelaySaid : Prop := fnExactIsDelayRow.holds Try.pinned (OpenSpec.ofChange fnExactIsDelaySpec)

/-- ITS FALSE NEIGHBOUR: 'it returns false'. Refute it at one input. -/
def fnExactIsDelayWrong : ChangeSpec := { name := "fnExactIsDelay", fn := fun _ => fun
  | [d] => { results := [.lit (.bool false)], args := [d] }
  | _ => none }
def FnExactIsDelayWrongFalsely : Prop := fnExactIsDelayRow.holds Try.pinned (OpenSpec.ofChange fnExactIsDelayWrong)

/-- 'laws.FnExactRootOf': WHATEVER THE INPUT: true; the input reads as it did. -/
def fnExactRootOfSpec : ChangeSpec := { name := "fnExactRootOf", fn := fun _ => fun
  | [d] => { results := [.lit (.bool true)], args := [d] }
  | _ => none }
def fnExactRootOfRow : OpenClaim := { program := "ytabickmaeklfmaa", sum := "97685ea632c492235d06e8781bcae86ef367f53c68f4b342e329cf755ca104e3", func := "loop.example/g00838/laws.FnExactRootOf", spec := "fnExactRootOf", unfollowed := true, recurses := true, apart := false }
def FnExactRootOfSaid : Prop := fnExactRootOfRow.holds Try.pinned (OpenSpec.ofChange fnExactRootOfSpec)

/-- ITS FALSE NEIGHBOUR: 'it returns false'. Refute it at one input. -/
def fnExactRootOfWrong : ChangeSpec := { name := "fnExactRootOf", fn := fun _ => fun
  | [d] => { results := [.lit (.bool false)], args := [d] }
  | _ => none }
def FnExactRootOfWrongFalsely : Prop := fnExactRootOfRow.holds Try.pinned (OpenSpec.ofChange fnExactRootOfWrong)

/-- 'laws.FnExactDropsIn': WHATEVER THE INPUT: true; the input reads as it did. -/
def fnExactDropsInSpec : ChangeSpec := { name := "fnExactDropsIn", fn := fun _ => fun
  | [d] => { results := [.lit (.bool true)], args := [d] }
  | _ => none }
def fnExactDropsInRow : OpenClaim := { program := "ytabickmaeklfmaa", sum := "97685ea632c492235d06e8781bcae86ef367f53c68f4b342e329cf755ca104e3", func := "loop.example/g00838/laws.FnExactDropsIn", spec := "fnExactDropsIn", apart := false }
def FnExactDropsInSaid : Prop := fnExactDropsInRow.holds Try.pinned (OpenSpec.ofChange fnExactDropsInSpec)

/-- ITS FALSE NEIGHBOUR: 'it returns false'. Refute it at one input. -/
def fnExactDropsInWrong : ChangeSpec := { name := "fnExactDropsIn", fn := fun _ => fun
  | [d] => { results := [.lit (.bool false)], args := [d] }
  | _ => none }
def FnExactDropsInWrongFalsely : Prop := fnExactDropsInRow.holds Try.pinned (OpenSpec.ofChange fnExactDropsInWrong)

/-- 'laws.FnExactNewDelay': WHATEVER THE INPUT: true; the input reads as it did. -/
def fnExactNewDelaySpec : ChangeSpec := { name := "fnExactNewDelay", fn := fun _ => fun
  | [d1, d2] => { results := [.lit (.bool true)], args := [d1, d2] }
  | _ => none }
def fnExactNewDelayRow : OpenClaim := { program := "ytabickmaeklfmaa", sum := "97685ea632c492235d06e8781bcae86ef367f53c68f4b342e329cf755ca104e3", func := "loop.example/g00838/laws.FnExactNewDelay", spec := "fnExactNewDelay", apart := false }
def FnExactNewDelaySaid : Prop := fnExactNewDelayRow.holds Try.pinned (OpenSpec.ofChange fnExactNewDelaySpec)

/-- ITS FALSE NEIGHBOUR: 'it returns false'. Refute it at one input. -/
def fnExactNewDelayWrong : ChangeSpec := { name := "fnExactNewDelay", fn := fun _ => fun
  | [d1, d2] => { results := [.lit (.bool false)], args := [d1, d2] }
  | _ => none }
def FnExactNewDelayWrongFalsely : Prop := fnExactNewDelayRow.holds Try.pinned (OpenSpec.ofChange fnExactNewDelayWrong)

/-- 'laws.FnExactGapAfter': WHATEVER THE INPUT: true; the input reads as it did. -/
def fnExactGapAfterSpec : ChangeSpec := { name := "fnExactGapAfter", fn := fun _ => fun
  | [d1, d2] => { results := [.lit (.bool true)], args := [d1, d2] }
  | _ => none }
def fnExactGapAfterRow : OpenClaim := { program := "ytabickmaeklfmaa", sum := "97685ea632c492235d06e8781bcae86ef367f53c68f4b342e329cf755ca104e3", func := "loop.example/g00838/laws.FnExactGapAfter", spec := "fnExactGapAfter", unfollowed := true, recurses := true, apart := false }
def FnExactGapAfterSaid : Prop := fnExactGapAfterRow.holds Try.pinned (OpenSpec.ofChange fnExactGapAfterSpec)

/-- ITS FALSE NEIGHBOUR: 'it returns false'. Refute it at one input. -/
def fnExactGapAfterWrong : ChangeSpec := { name := "fnExactGapAfter", fn := fun _ => fun
  | [d1, d2] => { results := [.lit (.bool false)], args := [d1, d2] }
  | _ => none }
def FnExactGapAfterWrongFalsely : Prop := fnExactGapAfterRow.holds Try.pinned (OpenSpec.ofChange fnExactGapAfterWrong)

/-- 'laws.FnExactDropTimes': WHATEVER THE INPUT: true; the input reads as it did. -/
def fnExactDropTimesSpec : ChangeSpec := { name := "fnExactDropTimes", fn := fun _ => fun
  | [d1, d2] => { results := [.lit (.bool true)], args := [d1, d2] }
  | _ => none }
def fnExactDropTimesRow : OpenClaim := { program := "ytabickmaeklfmaa", sum := "97685ea632c492235d06e8781bcae86ef367f53c68f4b342e329cf755ca104e3", func := "loop.example/g00838/laws.FnExactDropTimes", spec := "fnExactDropTimes", unfollowed := true, recurses := true, apart := false }
def FnExactDropTimesSaid : Prop := fnExactDropTimesRow.holds Try.pinned (OpenSpec.ofChange fnExactDropTimesSpec)

/-- ITS FALSE NEIGHBOUR: 'it returns false'. Refute it at one input. -/
def fnExactDropTimesWrong : ChangeSpec := { name := "fnExactDropTimes", fn := fun _ => fun
  | [d1, d2] => { results := [.lit (.bool false)], args := [d1, d2] }
  | _ => none }
def FnExactDropTimesWrongFalsely : Prop := fnExactDropTimesRow.holds Try.pinned (OpenSpec.ofChange fnExactDropTimesWrong)

/-- 'laws.FnExactWaitsOfRun': WHATEVER THE INPUT: true; the input reads as it did. -/
def fnExactWaitsOfRunSpec : ChangeSpec := { name := "fnExactWaitsOfRun", fn := fun _ => fun
  | [d1, d2] => { results := [.lit (.bool true)], args := [d1, d2] }
  | _ => none }
def fnExactWaitsOfRunRow : OpenClaim := { program := "ytabickmaeklfmaa", sum := "97685ea632c492235d06e8781bcae86ef367f53c68f4b342e329cf755ca104e3", func := "loop.example/g00838/laws.FnExactWaitsOfRun", spec := "fnExactWaitsOfRun", apart := false }
def FnExactWaitsOfRunSaid : Prop := fnExactWaitsOfRunRow.holds Try.pinned (OpenSpec.ofChange fnExactWaitsOfRunSpec)

/-- ITS FALSE NEIGHBOUR: 'it returns false'. Refute it at one input. -/
def fnExactWaitsOfRunWrong : ChangeSpec := { name := "fnExactWaitsOfRun", fn := fun _ => fun
  | [d1, d2] => { results := [.lit (.bool false)], args := [d1, d2] }
  | _ => none }
def FnExactWaitsOfRunWrongFalsely : Prop := fnExactWaitsOfRunRow.holds Try.pinned (OpenSpec.ofChange fnExactWaitsOfRunWrong)

/-- 'laws.FnExactDelayStep': WHATEVER THE INPUT: true; the input reads as it did. -/
def fnExactDelayStepSpec : ChangeSpec := { name := "fnExactDelayStep", fn := fun _ => fun
  | [d1, d2, d3, d4] => { results := [.lit (.bool true)], args := [d1, d2, d3, d4] }
  | _ => none }
def fnExactDelayStepRow : OpenClaim := { program := "ytabickmaeklfmaa", sum := "97685ea632c492235d06e8781bcae86ef367f53c68f4b342e329cf755ca104e3", func := "loop.example/g00838/laws.FnExactDelayStep", spec := "fnExactDelayStep", unfollowed := true, recurses := true, apart := false }
def FnExactDelayStepSaid : Prop := fnExactDelayStepRow.holds Try.pinned (OpenSpec.ofChange fnExactDelayStepSpec)

/-- ITS FALSE NEIGHBOUR: 'it returns false'. Refute it at one input. -/
def fnExactDelayStepWrong : ChangeSpec := { name := "fnExactDelayStep", fn := fun _ => fun
  | [d1, d2, d3, d4] => { results := [.lit (.bool false)], args := [d1, d2, d3, d4] }
  | _ => none }
def FnExactDelayStepWrongFalsely : Prop := fnExactDelayStepRow.holds Try.pinned (OpenSpec.ofChange fnExactDelayStepWrong)

/-- 'laws.FnExactRunDelay': WHATEVER THE INPUT: true; the input reads as it did. -/
def fnExactRunDelaySpec : ChangeSpec := { name := "fnExactRunDelay", fn := fun _ => fun
  | [d1, d2, d3] => { results := [.lit (.bool true)], args := [d1, d2, d3] }
  | _ => none }
def fnExactRunDelayRow : OpenClaim := { program := "ytabickmaeklfmaa", sum := "97685ea632c492235d06e8781bcae86ef367f53c68f4b342e329cf755ca104e3", func := "loop.example/g00838/laws.FnExactRunDelay", spec := "fnExactRunDelay", unfollowed := true, recurses := true, apart := false }
def FnExactRunDelaySaid : Prop := fnExactRunDelayRow.holds Try.pinned (OpenSpec.ofChange fnExactRunDelaySpec)

/-- ITS FALSE NEIGHBOUR: 'it returns false'. Refute it at one input. -/
def fnExactRunDelayWrong : ChangeSpec := { name := "fnExactRunDelay", fn := fun _ => fun
  | [d1, d2, d3] => { results := [.lit (.bool false)], args := [d1, d2, d3] }
  | _ => none }
def FnExactRunDelayWrongFalsely : Prop := fnExactRunDelayRow.holds Try.pinned (OpenSpec.ofChange fnExactRunDelayWrong)

/- THE SECOND FORM. 'bulk': how many values and letters a reading holds, each counted each time it is reached (what is shared counts as often as it is met; a slice's spare places count too). A statement '..UptoSaid' is the law's where the arguments, and the package variables that the reading takes, are together of bulk at most 1048576: NARROWER than '..Said'. Prove '..Said' where nothing that the law and all that it calls make is longer than what came in: it says more and counts as full. Else prove '..UptoSaid'. A law counts once. -/
mutual
def uptoBulk {H : Type} : DataW H → Nat
  | .lit (.string bytes) => bytes.length + 1
  | .lit _ => 1
  | .nil => 1
  | .ptr d => uptoBulk d + 1
  | .slice elems spare => uptoBulkAll elems + uptoBulkAll spare + 1
  | .agg parts => uptoBulkAll parts + 1
  | .iface _ d => uptoBulk d + 1
  | .map entries => uptoBulkEntries entries + 1
  | .held _ => 1
def uptoBulkAll {H : Type} : List (DataW H) → Nat
  | [] => 0
  | d :: r => uptoBulk d + uptoBulkAll r
def uptoBulkEntries {H : Type} : List (Lit × DataW H) → Nat
  | [] => 0
  | x :: r => uptoBulkEntry x + uptoBulkEntries r
def uptoBulkEntry {H : Type} : Lit × DataW H → Nat
  | (.string bytes, d) => bytes.length + uptoBulk d + 1
  | (_, d) => uptoBulk d + 1
 end
def uptoSmall : (H : Type) → List (DataW H) → Bool := fun _ ds => decide (uptoBulkAll ds ≤ 1048576)
def OpenSpec.upto (s : _root_.Go.ChangeSpec) : _root_.Go.OpenSpec := { _root_.Go.OpenSpec.ofChange s with cond := some uptoSmall }

/-- 'laws.FnExactIsDelay', WHERE WHAT IT READS IS OF BULK AT MOST 1048576: true; the input reads as it did. -/
def fnExactIsDelayUptoRow : OpenClaim := { program := "ytabickmaeklfmaa", sum := "97685ea632c492235d06e8781bcae86ef367f53c68f4b342e329cf755ca104e3", func := "loop.example/g00838/laws.FnExactIsDelay", spec := "fnExactIsDelay", apart := false, narrowed := true }
def FnExactIsDelayUptoSaid : Prop := fnExactIsDelayUptoRow.holds Try.pinned (OpenSpec.upto fnExactIsDelaySpec)

/-- 'laws.FnExactRootOf', WHERE WHAT IT READS IS OF BULK AT MOST 1048576: true; the input reads as it did. -/
def fnExactRootOfUptoRow : OpenClaim := { program := "ytabickmaeklfmaa", sum := "97685ea632c492235d06e8781bcae86ef367f53c68f4b342e329cf755ca104e3", func := "loop.example/g00838/laws.FnExactRootOf", spec := "fnExactRootOf", unfollowed := true, recurses := true, apart := false, narrowed := true }
def FnExactRootOfUptoSaid : Prop := fnExactRootOfUptoRow.holds Try.pinned (OpenSpec.upto fnExactRootOfSpec)

/-- 'laws.FnExactDropsIn', WHERE WHAT IT READS IS OF BULK AT MOST 1048576: true; the input reads as it did. -/
def fnExactDropsInUptoRow : OpenClaim := { program := "ytabickmaeklfmaa", sum := "97685ea632c492235d06e8781bcae86ef367f53c68f4b342e329cf755ca104e3", func := "loop.example/g00838/laws.FnExactDropsIn", spec := "fnExactDropsIn", apart := false, narrowed := true }
def FnExactDropsInUptoSaid : Prop := fnExactDropsInUptoRow.holds Try.pinned (OpenSpec.upto fnExactDropsInSpec)

/-- 'laws.FnExactNewDelay', WHERE WHAT IT READS IS OF BULK AT MOST 1048576: true; the input reads as it did. -/
def fnExactNewDelayUptoRow : OpenClaim := { program := "ytabickmaeklfmaa", sum := "97685ea632c492235d06e8781bcae86ef367f53c68f4b342e329cf755ca104e3", func := "loop.example/g00838/laws.FnExactNewDelay", spec := "fnExactNewDelay", apart := false, narrowed := true }
def FnExactNewDelayUptoSaid : Prop := fnExactNewDelayUptoRow.holds Try.pinned (OpenSpec.upto fnExactNewDelaySpec)

/-- 'laws.FnExactGapAfter', WHERE WHAT IT READS IS OF BULK AT MOST 1048576: true; the input reads as it did. -/
def fnExactGapAfterUptoRow : OpenClaim := { program := "ytabickmaeklfmaa", sum := "97685ea632c492235d06e8781bcae86ef367f53c68f4b342e329cf755ca104e3", func := "loop.example/g00838/laws.FnExactGapAfter", spec := "fnExactGapAfter", unfollowed := true, recurses := true, apart := false, narrowed := true }
def FnExactGapAfterUptoSaid : Prop := fnExactGapAfterUptoRow.holds Try.pinned (OpenSpec.upto fnExactGapAfterSpec)

/-- 'laws.FnExactDropTimes', WHERE WHAT IT READS IS OF BULK AT MOST 1048576: true; the input reads as it did. -/
def fnExactDropTimesUptoRow : OpenClaim := { program := "ytabickmaeklfmaa", sum := "97685ea632c492235d06e8781bcae86ef367f53c68f4b342e329cf755ca104e3", func := "loop.example/g00838/laws.FnExactDropTimes", spec := "fnExactDropTimes", unfollowed := true, recurses := true, apart := false, narrowed := true }
def FnExactDropTimesUptoSaid : Prop := fnExactDropTimesUptoRow.holds Try.pinned (OpenSpec.upto fnExactDropTimesSpec)

/-- 'laws.FnExactWaitsOfRun', WHERE WHAT IT READS IS OF BULK AT MOST 1048576: true; the input reads as it did. -/
def fnExactWaitsOfRunUptoRow : OpenClaim := { program := "ytabickmaeklfmaa", sum := "97685ea632c492235d06e8781bcae86ef367f53c68f4b342e329cf755ca104e3", func := "loop.example/g00838/laws.FnExactWaitsOfRun", spec := "fnExactWaitsOfRun", apart := false, narrowed := true }
def FnExactWaitsOfRunUptoSaid : Prop := fnExactWaitsOfRunUptoRow.holds Try.pinned (OpenSpec.upto fnExactWaitsOfRunSpec)

/-- 'laws.FnExactDelayStep', WHERE WHAT IT READS IS OF BULK AT MOST 1048576: true; the input reads as it did. -/
def fnExactDelayStepUptoRow : OpenClaim := { program := "ytabickmaeklfmaa", sum := "97685ea632c492235d06e8781bcae86ef367f53c68f4b342e329cf755ca104e3", func := "loop.example/g00838/laws.FnExactDelayStep", spec := "fnExactDelayStep", unfollowed := true, recurses := true, apart := false, narrowed := true }
def FnExactDelayStepUptoSaid : Prop := fnExactDelayStepUptoRow.holds Try.pinned (OpenSpec.upto fnExactDelayStepSpec)

/-- 'laws.FnExactRunDelay', WHERE WHAT IT READS IS OF BULK AT MOST 1048576: true; the input reads as it did. -/
def fnExactRunDelayUptoRow : OpenClaim := { program := "ytabickmaeklfmaa", sum := "97685ea632c492235d06e8781bcae86ef367f53c68f4b342e329cf755ca104e3", func := "loop.example/g00838/laws.FnExactRunDelay", spec := "fnExactRunDelay", unfollowed := true, recurses := true, apart := false, narrowed := true }
def FnExactRunDelayUptoSaid : Prop := fnExactRunDelayUptoRow.holds Try.pinned (OpenSpec.upto fnExactRunDelaySpec)

end Rows
end Go.Proofs.Ytabickmaeklfmaa
