/-
  DERIVED. GIVEN WITH THE SEED: THE CARDS: each row of YtjajddhedahpnaaDoorRows.lean that lists a variable, with what it lists TIED to the program's text (the seventh form; the later family's looks); each row that meets fmt, with fmt's text TOLD by the authors' own Lean function (tested against real Go, not proved from fmt's source: count such statements apart). THE CARD IS WHAT COUNTS. Prove the row's statement (the work); the ties are given (YtjajddhedahpnaaDoorTie.lean); close each card by the builder's one call (the guide's Derived/Test/ToyasCard.lean, 'card_holds'). Laid BY PROGRAM, IN A SANDBOX (cutbox-door.mjs). By AI agents, Wed Nov 11 2026. No macro, syntax, notation, axiom, sorry.
-/
import Derived.Test.YtjajddhedahpnaaDoorRows
import GoSem.ClaimSeven
namespace Go.Proofs.YtjajddhedahpnaaDoor
namespace Rows

/-- THE TIED CARD OF 'laws.FnExactLeafFor'. -/
def fnExactLeafForCard : Claim7 := { stood := { row := fnExactLeafForRow, standIns := [], harness := (true, "61591814ef0e6af5e8faf52f8c5d5c32b3e0d0172286deed4be7bf9754902aee"), looks := false }, kinds := [], alts := [], laidByText := true, laidKinds := [.data], laidTests := true, laidLooks := .later }
def FnExactLeafForCardSaid : Prop := Claim7.holds Tryd.pinned (.plain (OpenSpec.ofChange fnExactLeafForSpec)) fnExactLeafForCard

/-- THE TIED CARD OF 'laws.FnExactTakenBy'. -/
def fnExactTakenByCard : Claim7 := { stood := { row := fnExactTakenByRow, standIns := [], harness := (true, "61591814ef0e6af5e8faf52f8c5d5c32b3e0d0172286deed4be7bf9754902aee"), looks := false }, kinds := [], alts := [], laidByText := true, laidKinds := [.data], laidTests := true, laidLooks := .later }
def FnExactTakenByCardSaid : Prop := Claim7.holds Tryd.pinned (.plain (OpenSpec.ofChange fnExactTakenBySpec)) fnExactTakenByCard

/-- THE TIED CARD OF 'laws.FnExactFirstFilter'. -/
def fnExactFirstFilterCard : Claim7 := { stood := { row := fnExactFirstFilterRow, standIns := [], harness := (true, "61591814ef0e6af5e8faf52f8c5d5c32b3e0d0172286deed4be7bf9754902aee"), looks := false }, kinds := [], alts := [], laidByText := true, laidKinds := [.data], laidTests := true, laidLooks := .later }
def FnExactFirstFilterCardSaid : Prop := Claim7.holds Tryd.pinned (.plain (OpenSpec.ofChange fnExactFirstFilterSpec)) fnExactFirstFilterCard

/-- THE SECOND FORM's CARD OF 'laws.FnExactLeafFor'. -/
def fnExactLeafForUptoCard : Claim7 := { stood := { row := fnExactLeafForUptoRow, standIns := [], harness := (true, "61591814ef0e6af5e8faf52f8c5d5c32b3e0d0172286deed4be7bf9754902aee"), looks := false }, kinds := [], alts := [], laidByText := true, laidKinds := [.data], laidTests := true, laidLooks := .later }
def FnExactLeafForUptoCardSaid : Prop := Claim7.holds Tryd.pinned (.plain (OpenSpec.upto fnExactLeafForSpec)) fnExactLeafForUptoCard

/-- THE SECOND FORM's CARD OF 'laws.FnExactTakenBy'. -/
def fnExactTakenByUptoCard : Claim7 := { stood := { row := fnExactTakenByUptoRow, standIns := [], harness := (true, "61591814ef0e6af5e8faf52f8c5d5c32b3e0d0172286deed4be7bf9754902aee"), looks := false }, kinds := [], alts := [], laidByText := true, laidKinds := [.data], laidTests := true, laidLooks := .later }
def FnExactTakenByUptoCardSaid : Prop := Claim7.holds Tryd.pinned (.plain (OpenSpec.upto fnExactTakenBySpec)) fnExactTakenByUptoCard

/-- THE SECOND FORM's CARD OF 'laws.FnExactFirstFilter'. -/
def fnExactFirstFilterUptoCard : Claim7 := { stood := { row := fnExactFirstFilterUptoRow, standIns := [], harness := (true, "61591814ef0e6af5e8faf52f8c5d5c32b3e0d0172286deed4be7bf9754902aee"), looks := false }, kinds := [], alts := [], laidByText := true, laidKinds := [.data], laidTests := true, laidLooks := .later }
def FnExactFirstFilterUptoCardSaid : Prop := Claim7.holds Tryd.pinned (.plain (OpenSpec.upto fnExactFirstFilterSpec)) fnExactFirstFilterUptoCard
end Rows
end Go.Proofs.YtjajddhedahpnaaDoor
