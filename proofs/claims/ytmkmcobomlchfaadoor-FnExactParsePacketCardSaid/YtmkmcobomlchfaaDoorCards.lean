/-
  DERIVED. GIVEN WITH THE SEED: THE CARDS: each row of YtmkmcobomlchfaaDoorRows.lean that lists a variable, with what it lists TIED to the program's text (the seventh form; the later family's looks); each row that meets fmt, with fmt's text TOLD by the authors' own Lean function (tested against real Go, not proved from fmt's source: count such statements apart). THE CARD IS WHAT COUNTS. Prove the row's statement (the work); the ties are given (YtmkmcobomlchfaaDoorTie.lean); close each card by the builder's one call (the guide's Derived/Test/ToyasCard.lean, 'card_holds'). Laid BY PROGRAM, IN A SANDBOX (cutbox-door.mjs). By AI agents, Wed Nov 11 2026. No macro, syntax, notation, axiom, sorry.
-/
import Derived.Test.YtmkmcobomlchfaaDoorRows
import GoSem.ClaimSeven
namespace Go.Proofs.YtmkmcobomlchfaaDoor
namespace Rows

/-- THE TIED CARD OF 'laws.FnExactPacketText'. -/
def fnExactPacketTextCard : Claim7 := { stood := { row := fnExactPacketTextRow, standIns := [], harness := (true, "c5e9850a9ba4741e8493e9131f5c90b60ec5c51e0f3b9494fe6df1957001e9c3"), looks := true }, kinds := [], alts := [], laidByText := true, laidKinds := [.data, .data, .data], laidTests := true, laidLooks := .later }
def FnExactPacketTextCardSaid : Prop := Claim7.holds Tryd.pinned (.plain (OpenSpec.ofChange fnExactPacketTextSpec)) fnExactPacketTextCard

/-- THE TIED CARD OF 'laws.FnExactParsePacket'. -/
def fnExactParsePacketCard : Claim7 := { stood := { row := fnExactParsePacketRow, standIns := [], harness := (true, "c5e9850a9ba4741e8493e9131f5c90b60ec5c51e0f3b9494fe6df1957001e9c3"), looks := true }, kinds := [], alts := [], laidByText := true, laidKinds := [.data, .data, .data, .data, .sentinel, .sentinel, .pinned], laidTests := true, laidLooks := .later }
def FnExactParsePacketCardSaid : Prop := Claim7.holds Tryd.pinned (.plain (OpenSpec.ofChange fnExactParsePacketSpec)) fnExactParsePacketCard

/-- THE SECOND FORM's CARD OF 'laws.FnExactPacketText'. -/
def fnExactPacketTextUptoCard : Claim7 := { stood := { row := fnExactPacketTextUptoRow, standIns := [], harness := (true, "c5e9850a9ba4741e8493e9131f5c90b60ec5c51e0f3b9494fe6df1957001e9c3"), looks := true }, kinds := [], alts := [], laidByText := true, laidKinds := [.data, .data, .data], laidTests := true, laidLooks := .later }
def FnExactPacketTextUptoCardSaid : Prop := Claim7.holds Tryd.pinned (.plain (OpenSpec.upto fnExactPacketTextSpec)) fnExactPacketTextUptoCard

/-- THE SECOND FORM's CARD OF 'laws.FnExactParsePacket'. -/
def fnExactParsePacketUptoCard : Claim7 := { stood := { row := fnExactParsePacketUptoRow, standIns := [], harness := (true, "c5e9850a9ba4741e8493e9131f5c90b60ec5c51e0f3b9494fe6df1957001e9c3"), looks := true }, kinds := [], alts := [], laidByText := true, laidKinds := [.data, .data, .data, .data, .sentinel, .sentinel, .pinned], laidTests := true, laidLooks := .later }
def FnExactParsePacketUptoCardSaid : Prop := Claim7.holds Tryd.pinned (.plain (OpenSpec.upto fnExactParsePacketSpec)) fnExactParsePacketUptoCard
end Rows
end Go.Proofs.YtmkmcobomlchfaaDoor
