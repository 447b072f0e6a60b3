/-
  No cell of these rows narrows 'for every input' (looked for: loops, veiled, ifaces, maps, wideKeys, modest, calm, conditions, laid).
  DERIVED. THE GIVEN ROWS OF THIS SEAT. 11 by the template 'for every input the law returns true; each argument reads behind the call as it read before'; 0 by the template 'total and deterministic' (their statements: YtpgddjnjojkllaaTotals.lean).
  GIVEN WITH THE SEED: the statements are not yours to turn. If you find one false, say at which input.
  Laid BY PROGRAM, IN A SANDBOX (cutbox-rows.mjs): the forced cells as the released guide's own fill.sh prints them over the translation 6f57c3cdc755d53e… (all of the seat's roots in one cut). By AI agents, Wed Nov 11 2026. No macro, syntax, notation, axiom, sorry.
-/
import Derived.Test.YtpgddjnjojkllaaChecked
import GoSem.Claim
import GoSem.ClaimJoined
import GoSem.ClaimMapViews
import Derived.JoinedTies
import Derived.KernelRfl
namespace Go.Proofs.Ytpgddjnjojkllaa
/- THE CELL 'sum', in the pinned program and in every row, IS THE sha256 OF THE DUMP (.gsa) THAT YtpgddjnjojkllaaProg.lean LOADS. Nothing in Lean hashes anything: it is a label: what it is worth is what the hold of that sum in a sandbox is worth. -/
noncomputable def Try.pinned : Pinned := { name := "ytpgddjnjojkllaa", sum := "6f57c3cdc755d53e809fbd6013a6dce616715f571be38b70e22326b9491087a1", checked := Try.checked }
namespace Rows
def none {H : Type} : Left H := { results := [], args := [] }

/-- 'laws.FnExactIsEarly': WHATEVER THE INPUT: true; the input reads as it did. -/
def fnExactIsEarlySpec : ChangeSpec := { name := "fnExactIsEarly", fn := fun _ => fun
  | [d] => { results := [.lit (.bool true)], args := [d] }
  | _ => none }
def fnExactIsEarlyRow : OpenClaim := { program := "ytpgddjnjojkllaa", sum := "6f57c3cdc755d53e809fbd6013a6dce616715f571be38b70e22326b9491087a1", func := "loop.example/g00838/laws.FnExactIsEarly", spec := "fnExactIsEarly", apart := false }
def FnExactIsEarlySaid : Prop := fnExactIsEarlyRow.holds Try.pinned (OpenSpec.ofChange fnExactIsEarlySpec)

/-- ITS FALSE NEIGHBOUR: 'it returns false'. Refute it at one input. -/
def fnExactIsEarlyWrong : ChangeSpec := { name := "fnExactIsEarly", fn := fun _ => fun
  | [d] => { results := [.lit (.bool false)], args := [d] }
  | _ => none }
def FnExactIsEarlyWrongFalsely : Prop := fnExactIsEarlyRow.holds Try.pinned (OpenSpec.ofChange fnExactIsEarlyWrong)

/-- 'laws.FnExactNextAverage': WHATEVER THE INPUT: true; the input reads as it did. -/
def fnExactNextAverageSpec : ChangeSpec := { name := "fnExactNextAverage", fn := fun _ => fun
  | [d1, d2, d3] => { results := [.lit (.bool true)], args := [d1, d2, d3] }
  | _ => none }
def fnExactNextAverageRow : OpenClaim := { program := "ytpgddjnjojkllaa", sum := "6f57c3cdc755d53e809fbd6013a6dce616715f571be38b70e22326b9491087a1", func := "loop.example/g00838/laws.FnExactNextAverage", spec := "fnExactNextAverage", apart := false }
def FnExactNextAverageSaid : Prop := fnExactNextAverageRow.holds Try.pinned (OpenSpec.ofChange fnExactNextAverageSpec)

/-- ITS FALSE NEIGHBOUR: 'it returns false'. Refute it at one input. -/
def fnExactNextAverageWrong : ChangeSpec := { name := "fnExactNextAverage", fn := fun _ => fun
  | [d1, d2, d3] => { results := [.lit (.bool false)], args := [d1, d2, d3] }
  | _ => none }
def FnExactNextAverageWrongFalsely : Prop := fnExactNextAverageRow.holds Try.pinned (OpenSpec.ofChange fnExactNextAverageWrong)

/-- 'laws.FnExactKeyedNumber': WHATEVER THE INPUT: true; the input reads as it did. -/
def fnExactKeyedNumberSpec : ChangeSpec := { name := "fnExactKeyedNumber", fn := fun _ => fun
  | [d1, d2] => { results := [.lit (.bool true)], args := [d1, d2] }
  | _ => none }
def fnExactKeyedNumberRow : OpenClaim := { program := "ytpgddjnjojkllaa", sum := "6f57c3cdc755d53e809fbd6013a6dce616715f571be38b70e22326b9491087a1", func := "loop.example/g00838/laws.FnExactKeyedNumber", spec := "fnExactKeyedNumber", apart := false }
def FnExactKeyedNumberSaid : Prop := fnExactKeyedNumberRow.holds Try.pinned (OpenSpec.ofChange fnExactKeyedNumberSpec)

/-- ITS FALSE NEIGHBOUR: 'it returns false'. Refute it at one input. -/
def fnExactKeyedNumberWrong : ChangeSpec := { name := "fnExactKeyedNumber", fn := fun _ => fun
  | [d1, d2] => { results := [.lit (.bool false)], args := [d1, d2] }
  | _ => none }
def FnExactKeyedNumberWrongFalsely : Prop := fnExactKeyedNumberRow.holds Try.pinned (OpenSpec.ofChange fnExactKeyedNumberWrong)

/-- 'laws.FnExactDropsOf': WHATEVER THE INPUT: true; the input reads as it did. -/
def fnExactDropsOfSpec : ChangeSpec := { name := "fnExactDropsOf", fn := fun _ => fun
  | [d] => { results := [.lit (.bool true)], args := [d] }
  | _ => none }
def fnExactDropsOfRow : OpenClaim := { program := "ytpgddjnjojkllaa", sum := "6f57c3cdc755d53e809fbd6013a6dce616715f571be38b70e22326b9491087a1", func := "loop.example/g00838/laws.FnExactDropsOf", spec := "fnExactDropsOf", apart := false }
def FnExactDropsOfSaid : Prop := fnExactDropsOfRow.holds Try.pinned (OpenSpec.ofChange fnExactDropsOfSpec)

/-- ITS FALSE NEIGHBOUR: 'it returns false'. Refute it at one input. -/
def fnExactDropsOfWrong : ChangeSpec := { name := "fnExactDropsOf", fn := fun _ => fun
  | [d] => { results := [.lit (.bool false)], args := [d] }
  | _ => none }
def FnExactDropsOfWrongFalsely : Prop := fnExactDropsOfRow.holds Try.pinned (OpenSpec.ofChange fnExactDropsOfWrong)

/-- 'laws.FnExactLeastForced': WHATEVER THE INPUT: true; the input reads as it did. -/
def fnExactLeastForcedSpec : ChangeSpec := { name := "fnExactLeastForced", fn := fun _ => fun
  | [d] => { results := [.lit (.bool true)], args := [d] }
  | _ => none }
def fnExactLeastForcedRow : OpenClaim := { program := "ytpgddjnjojkllaa", sum := "6f57c3cdc755d53e809fbd6013a6dce616715f571be38b70e22326b9491087a1", func := "loop.example/g00838/laws.FnExactLeastForced", spec := "fnExactLeastForced", unfollowed := true, recurses := true, apart := false }
def FnExactLeastForcedSaid : Prop := fnExactLeastForcedRow.holds Try.pinned (OpenSpec.ofChange fnExactLeastForcedSpec)

/-- ITS FALSE NEIGHBOUR: 'it returns false'. Refute it at one input. -/
def fnExactLeastForcedWrong : ChangeSpec := { name := "fnExactLeastForced", fn := fun _ => fun
  | [d] => { results := [.lit (.bool false)], args := [d] }
  | _ => none }
def FnExactLeastForcedWrongFalsely : Prop := fnExactLeastForcedRow.holds Try.pinned (OpenSpec.ofChange fnExactLeastForcedWrong)

/-- 'laws.FnExactIdleUntil': WHATEVER THE INPUT: true; the input reads as it did. -/
def fnExactIdleUntilSpec : ChangeSpec := { name := "fnExactIdleUntil", fn := fun _ => fun
  | [d1, d2] => { results := [.lit (.bool true)], args := [d1, d2] }
  | _ => none }
def fnExactIdleUntilRow : OpenClaim := { program := "ytpgddjnjojkllaa", sum := "6f57c3cdc755d53e809fbd6013a6dce616715f571be38b70e22326b9491087a1", func := "loop.example/g00838/laws.FnExactIdleUntil", spec := "fnExactIdleUntil", unfollowed := true, recurses := true, apart := false }
def FnExactIdleUntilSaid : Prop := fnExactIdleUntilRow.holds Try.pinned (OpenSpec.ofChange fnExactIdleUntilSpec)

/-- ITS FALSE NEIGHBOUR: 'it returns false'. Refute it at one input. -/
def fnExactIdleUntilWrong : ChangeSpec := { name := "fnExactIdleUntil", fn := fun _ => fun
  | [d1, d2] => { results := [.lit (.bool false)], args := [d1, d2] }
  | _ => none }
def FnExactIdleUntilWrongFalsely : Prop := fnExactIdleUntilRow.holds Try.pinned (OpenSpec.ofChange fnExactIdleUntilWrong)

/-- 'laws.FnExactDropChance': WHATEVER THE INPUT: true; the input reads as it did. -/
def fnExactDropChanceSpec : ChangeSpec := { name := "fnExactDropChance", fn := fun _ => fun
  | [d1, d2, d3] => { results := [.lit (.bool true)], args := [d1, d2, d3] }
  | _ => none }
def fnExactDropChanceRow : OpenClaim := { program := "ytpgddjnjojkllaa", sum := "6f57c3cdc755d53e809fbd6013a6dce616715f571be38b70e22326b9491087a1", func := "loop.example/g00838/laws.FnExactDropChance", spec := "fnExactDropChance", apart := false }
def FnExactDropChanceSaid : Prop := fnExactDropChanceRow.holds Try.pinned (OpenSpec.ofChange fnExactDropChanceSpec)

/-- ITS FALSE NEIGHBOUR: 'it returns false'. Refute it at one input. -/
def fnExactDropChanceWrong : ChangeSpec := { name := "fnExactDropChance", fn := fun _ => fun
  | [d1, d2, d3] => { results := [.lit (.bool false)], args := [d1, d2, d3] }
  | _ => none }
def FnExactDropChanceWrongFalsely : Prop := fnExactDropChanceRow.holds Try.pinned (OpenSpec.ofChange fnExactDropChanceWrong)

/-- 'laws.FnExactCompareEarly': WHATEVER THE INPUT: true; the input reads as it did. -/
def fnExactCompareEarlySpec : ChangeSpec := { name := "fnExactCompareEarly", fn := fun _ => fun
  | [d1, d2, d3] => { results := [.lit (.bool true)], args := [d1, d2, d3] }
  | _ => none }
def fnExactCompareEarlyRow : OpenClaim := { program := "ytpgddjnjojkllaa", sum := "6f57c3cdc755d53e809fbd6013a6dce616715f571be38b70e22326b9491087a1", func := "loop.example/g00838/laws.FnExactCompareEarly", spec := "fnExactCompareEarly", apart := false }
def FnExactCompareEarlySaid : Prop := fnExactCompareEarlyRow.holds Try.pinned (OpenSpec.ofChange fnExactCompareEarlySpec)

/-- ITS FALSE NEIGHBOUR: 'it returns false'. Refute it at one input. -/
def fnExactCompareEarlyWrong : ChangeSpec := { name := "fnExactCompareEarly", fn := fun _ => fun
  | [d1, d2, d3] => { results := [.lit (.bool false)], args := [d1, d2, d3] }
  | _ => none }
def FnExactCompareEarlyWrongFalsely : Prop := fnExactCompareEarlyRow.holds Try.pinned (OpenSpec.ofChange fnExactCompareEarlyWrong)

/-- 'laws.FnExactAverageOver': WHATEVER THE INPUT: true; the input reads as it did. -/
def fnExactAverageOverSpec : ChangeSpec := { name := "fnExactAverageOver", fn := fun _ => fun
  | [d1, d2, d3] => { results := [.lit (.bool true)], args := [d1, d2, d3] }
  | _ => none }
def fnExactAverageOverRow : OpenClaim := { program := "ytpgddjnjojkllaa", sum := "6f57c3cdc755d53e809fbd6013a6dce616715f571be38b70e22326b9491087a1", func := "loop.example/g00838/laws.FnExactAverageOver", spec := "fnExactAverageOver", apart := false }
def FnExactAverageOverSaid : Prop := fnExactAverageOverRow.holds Try.pinned (OpenSpec.ofChange fnExactAverageOverSpec)

/-- ITS FALSE NEIGHBOUR: 'it returns false'. Refute it at one input. -/
def fnExactAverageOverWrong : ChangeSpec := { name := "fnExactAverageOver", fn := fun _ => fun
  | [d1, d2, d3] => { results := [.lit (.bool false)], args := [d1, d2, d3] }
  | _ => none }
def FnExactAverageOverWrongFalsely : Prop := fnExactAverageOverRow.holds Try.pinned (OpenSpec.ofChange fnExactAverageOverWrong)

/-- 'laws.FnExactDecideEarly': WHATEVER THE INPUT: true; the input reads as it did. -/
def fnExactDecideEarlySpec : ChangeSpec := { name := "fnExactDecideEarly", fn := fun _ => fun
  | [d1, d2, d3, d4, d5] => { results := [.lit (.bool true)], args := [d1, d2, d3, d4, d5] }
  | _ => none }
def fnExactDecideEarlyRow : OpenClaim := { program := "ytpgddjnjojkllaa", sum := "6f57c3cdc755d53e809fbd6013a6dce616715f571be38b70e22326b9491087a1", func := "loop.example/g00838/laws.FnExactDecideEarly", spec := "fnExactDecideEarly", apart := false }
def FnExactDecideEarlySaid : Prop := fnExactDecideEarlyRow.holds Try.pinned (OpenSpec.ofChange fnExactDecideEarlySpec)

/-- ITS FALSE NEIGHBOUR: 'it returns false'. Refute it at one input. -/
def fnExactDecideEarlyWrong : ChangeSpec := { name := "fnExactDecideEarly", fn := fun _ => fun
  | [d1, d2, d3, d4, d5] => { results := [.lit (.bool false)], args := [d1, d2, d3, d4, d5] }
  | _ => none }
def FnExactDecideEarlyWrongFalsely : Prop := fnExactDecideEarlyRow.holds Try.pinned (OpenSpec.ofChange fnExactDecideEarlyWrong)

/-- 'laws.FnExactRunEarly': WHATEVER THE INPUT: true; the input reads as it did. -/
def fnExactRunEarlySpec : ChangeSpec := { name := "fnExactRunEarly", fn := fun _ => fun
  | [d1, d2, d3, d4] => { results := [.lit (.bool true)], args := [d1, d2, d3, d4] }
  | _ => none }
def fnExactRunEarlyRow : OpenClaim := { program := "ytpgddjnjojkllaa", sum := "6f57c3cdc755d53e809fbd6013a6dce616715f571be38b70e22326b9491087a1", func := "loop.example/g00838/laws.FnExactRunEarly", spec := "fnExactRunEarly", apart := false }
def FnExactRunEarlySaid : Prop := fnExactRunEarlyRow.holds Try.pinned (OpenSpec.ofChange fnExactRunEarlySpec)

/-- ITS FALSE NEIGHBOUR: 'it returns false'. Refute it at one input. -/
def fnExactRunEarlyWrong : ChangeSpec := { name := "fnExactRunEarly", fn := fun _ => fun
  | [d1, d2, d3, d4] => { results := [.lit (.bool false)], args := [d1, d2, d3, d4] }
  | _ => none }
def FnExactRunEarlyWrongFalsely : Prop := fnExactRunEarlyRow.holds Try.pinned (OpenSpec.ofChange fnExactRunEarlyWrong)

/- THE SECOND FORM. 'bulk': how many values and letters a reading holds, each counted each time it is reached (what is shared counts as often as it is met; a slice's spare places count too). A statement '..UptoSaid' is the law's where the arguments, and the package variables that the reading takes, are together of bulk at most 1048576: NARROWER than '..Said'. Prove '..Said' where nothing that the law and all that it calls make is longer than what came in: it says more and counts as full. Else prove '..UptoSaid'. A law counts once. -/
mutual
def uptoBulk {H : Type} : DataW H → Nat
  | .lit (.string bytes) => bytes.length + 1
  | .lit _ => 1
  | .nil => 1
  | .ptr d => uptoBulk d + 1
  | .slice elems spare => uptoBulkAll elems + uptoBulkAll spare + 1
  | .agg parts => uptoBulkAll parts + 1
  | .iface _ d => uptoBulk d + 1
  | .map entries => uptoBulkEntries entries + 1
  | .held _ => 1
def uptoBulkAll {H : Type} : List (DataW H) → Nat
  | [] => 0
  | d :: r => uptoBulk d + uptoBulkAll r
def uptoBulkEntries {H : Type} : List (Lit × DataW H) → Nat
  | [] => 0
  | x :: r => uptoBulkEntry x + uptoBulkEntries r
def uptoBulkEntry {H : Type} : Lit × DataW H → Nat
  | (.string bytes, d) => bytes.length + uptoBulk d + 1
  | (_, d) => uptoBulk d + 1
 end
def uptoSmall : (H : Type) → List (DataW H) → Bool := fun _ ds => decide (uptoBulkAll ds ≤ 1048576)
def OpenSpec.upto (s : _root_.Go.ChangeSpec) : _root_.Go.OpenSpec := { _root_.Go.OpenSpec.ofChange s with cond := some uptoSmall }

/-- 'laws.FnExactIsEarly', WHERE WHAT IT READS IS OF BULK AT MOST 1048576: true; the input reads as it did. -/
def fnExactIsEarlyUptoRow : OpenClaim := { program := "ytpgddjnjojkllaa", sum := "6f57c3cdc755d53e809fbd6013a6dce616715f571be38b70e22326b9491087a1", func := "loop.example/g00838/laws.FnExactIsEarly", spec := "fnExactIsEarly", apart := false, narrowed := true }
def FnExactIsEarlyUptoSaid : Prop := fnExactIsEarlyUptoRow.holds Try.pinned (OpenSpec.upto fnExactIsEarlySpec)

/-- 'laws.FnExactNextAverage', WHERE WHAT IT READS IS OF BULK AT MOST 1048576: true; the input reads as it did. -/
def fnExactNextAverageUptoRow : OpenClaim := { program := "ytpgddjnjojkllaa", sum := "6f57c3cdc755d53e809fbd6013a6dce616715f571be38b70e22326b9491087a1", func := "loop.example/g00838/laws.FnExactNextAverage", spec := "fnExactNextAverage", apart := false, narrowed := true }
def FnExactNextAverageUptoSaid : Prop := fnExactNextAverageUptoRow.holds Try.pinned (OpenSpec.upto fnExactNextAverageSpec)

/-- 'laws.FnExactKeyedNumber', WHERE WHAT IT READS IS OF BULK AT MOST 1048576: true; the input reads as it did. -/
def fnExactKeyedNumberUptoRow : OpenClaim := { program := "ytpgddjnjojkllaa", sum := "6f57c3cdc755d53e809fbd6013a6dce616715f571be38b70e22326b9491087a1", func := "loop.example/g00838/laws.FnExactKeyedNumber", spec := "fnExactKeyedNumber", apart := false, narrowed := true }
def FnExactKeyedNumberUptoSaid : Prop := fnExactKeyedNumberUptoRow.holds Try.pinned (OpenSpec.upto fnExactKeyedNumberSpec)

/-- 'laws.FnExactDropsOf', WHERE WHAT IT READS IS OF BULK AT MOST 1048576: true; the input reads as it did. -/
def fnExactDropsOfUptoRow : OpenClaim := { program := "ytpgddjnjojkllaa", sum := "6f57c3cdc755d53e809fbd6013a6dce616715f571be38b70e22326b9491087a1", func := "loop.example/g00838/laws.FnExactDropsOf", spec := "fnExactDropsOf", apart := false, narrowed := true }
def FnExactDropsOfUptoSaid : Prop := fnExactDropsOfUptoRow.holds Try.pinned (OpenSpec.upto fnExactDropsOfSpec)

/-- 'laws.FnExactLeastForced', WHERE WHAT IT READS IS OF BULK AT MOST 1048576: true; the input reads as it did. -/
def fnExactLeastForcedUptoRow : OpenClaim := { program := "ytpgddjnjojkllaa", sum := "6f57c3cdc755d53e809fbd6013a6dce616715f571be38b70e22326b9491087a1", func := "loop.example/g00838/laws.FnExactLeastForced", spec := "fnExactLeastForced", unfollowed := true, recurses := true, apart := false, narrowed := true }
def FnExactLeastForcedUptoSaid : Prop := fnExactLeastForcedUptoRow.holds Try.pinned (OpenSpec.upto fnExactLeastForcedSpec)

/-- 'laws.FnExactIdleUntil', WHERE WHAT IT READS IS OF BULK AT MOST 1048576: true; the input reads as it did. -/
def fnExactIdleUntilUptoRow : OpenClaim := { program := "ytpgddjnjojkllaa", sum := "6f57c3cdc755d53e809fbd6013a6dce616715f571be38b70e22326b9491087a1", func := "loop.example/g00838/laws.FnExactIdleUntil", spec := "fnExactIdleUntil", unfollowed := true, recurses := true, apart := false, narrowed := true }
def FnExactIdleUntilUptoSaid : Prop := fnExactIdleUntilUptoRow.holds Try.pinned (OpenSpec.upto fnExactIdleUntilSpec)

/-- 'laws.FnExactDropChance', WHERE WHAT IT READS IS OF BULK AT MOST 1048576: true; the input reads as it did. -/
def fnExactDropChanceUptoRow : OpenClaim := { program := "ytpgddjnjojkllaa", sum := "6f57c3cdc755d53e809fbd6013a6dce616715f571be38b70e22326b9491087a1", func := "loop.example/g00838/laws.FnExactDropChance", spec := "fnExactDropChance", apart := false, narrowed := true }
def FnExactDropChanceUptoSaid : Prop := fnExactDropChanceUptoRow.holds Try.pinned (OpenSpec.upto fnExactDropChanceSpec)

/-- 'laws.FnExactCompareEarly', WHERE WHAT IT READS IS OF BULK AT MOST 1048576: true; the input reads as it did. -/
def fnExactCompareEarlyUptoRow : OpenClaim := { program := "ytpgddjnjojkllaa", sum := "6f57c3cdc755d53e809fbd6013a6dce616715f571be38b70e22326b9491087a1", func := "loop.example/g00838/laws.FnExactCompareEarly", spec := "fnExactCompareEarly", apart := false, narrowed := true }
def FnExactCompareEarlyUptoSaid : Prop := fnExactCompareEarlyUptoRow.holds Try.pinned (OpenSpec.upto fnExactCompareEarlySpec)

/-- 'laws.FnExactAverageOver', WHERE WHAT IT READS IS OF BULK AT MOST 1048576: true; the input reads as it did. -/
def fnExactAverageOverUptoRow : OpenClaim := { program := "ytpgddjnjojkllaa", sum := "6f57c3cdc755d53e809fbd6013a6dce616715f571be38b70e22326b9491087a1", func := "loop.example/g00838/laws.FnExactAverageOver", spec := "fnExactAverageOver", apart := false, narrowed := true }
def FnExactAverageOverUptoSaid : Prop := fnExactAverageOverUptoRow.holds Try.pinned (OpenSpec.upto fnExactAverageOverSpec)

/-- 'laws.FnExactDecideEarly', WHERE WHAT IT READS IS OF BULK AT MOST 1048576: true; the input reads as it did. -/
def fnExactDecideEarlyUptoRow : OpenClaim := { program := "ytpgddjnjojkllaa", sum := "6f57c3cdc755d53e809fbd6013a6dce616715f571be38b70e22326b9491087a1", func := "loop.example/g00838/laws.FnExactDecideEarly", spec := "fnExactDecideEarly", apart := false, narrowed := true }
def FnExactDecideEarlyUptoSaid : Prop := fnExactDecideEarlyUptoRow.holds Try.pinned (OpenSpec.upto fnExactDecideEarlySpec)

/-- 'laws.FnExactRunEarly', WHERE WHAT IT READS IS OF BULK AT MOST 1048576: true; the input reads as it did. -/
def fnExactRunEarlyUptoRow : OpenClaim := { program := "ytpgddjnjojkllaa", sum := "6f57c3cdc755d53e809fbd6013a6dce616715f571be38b70e22326b9491087a1", func := "loop.example/g00838/laws.FnExactRunEarly", spec := "fnExactRunEarly", apart := false, narrowed := true }
def FnExactRunEarlyUptoSaid : Prop := fnExactRunEarlyUptoRow.holds Try.pinned (OpenSpec.upto fnExactRunEarlySpec)

end Rows
end Go.Proofs.Ytpgddjnjojkllaa
