/-
  DERIVED. GIVEN WITH THE SEED: THE CARDS: each row of YtlinnmllbbmnpaaDoorRows.lean that lists a variable, with what it lists TIED to the program's text (the seventh form; the later family's looks); each row that meets fmt, with fmt's text TOLD by the authors' own Lean function (tested against real Go, not proved from fmt's source: count such statements apart). THE CARD IS WHAT COUNTS. Prove the row's statement (the work); the ties are given (YtlinnmllbbmnpaaDoorTie.lean); close each card by the builder's one call (the guide's Derived/Test/ToyasCard.lean, 'card_holds'). Laid BY PROGRAM, IN A SANDBOX (cutbox-door.mjs). By AI agents, Wed Nov 11 2026. No macro, syntax, notation, axiom, sorry.
-/
import Derived.Test.YtlinnmllbbmnpaaDoorRows
import GoSem.ClaimSeven
namespace Go.Proofs.YtlinnmllbbmnpaaDoor
namespace Rows

/-- THE TIED CARD OF 'oakumlaw21.CommandPrints'. -/
def commandPrintsCard : Claim7 := { stood := { row := commandPrintsRow, standIns := [], harness := (true, "5cbf62bc1dc09de5dc6bf1c650a87f48453633e5e6fb69032fc7cd5de87f5f9f"), looks := true }, kinds := [], alts := [], laidByText := true, laidKinds := [.data, .data, .data, .data, .sentinel, .sentinel, .pinned], laidTests := true, laidLooks := .later }
def CommandPrintsCardSaid : Prop := Claim7.holds Tryd.pinned (.plain (OpenSpec.ofChange commandPrintsSpec)) commandPrintsCard

/-- THE TIED CARD OF 'oakumlaw21.CommandParses'. -/
def commandParsesCard : Claim7 := { stood := { row := commandParsesRow, standIns := [], harness := (true, "5cbf62bc1dc09de5dc6bf1c650a87f48453633e5e6fb69032fc7cd5de87f5f9f"), looks := true }, kinds := [], alts := [], laidByText := true, laidKinds := [.data, .data, .data, .data, .sentinel, .sentinel, .pinned], laidTests := true, laidLooks := .later }
def CommandParsesCardSaid : Prop := Claim7.holds Tryd.pinned (.plain (OpenSpec.ofChange commandParsesSpec)) commandParsesCard

/-- THE SECOND FORM's CARD OF 'oakumlaw21.CommandPrints'. -/
def commandPrintsUptoCard : Claim7 := { stood := { row := commandPrintsUptoRow, standIns := [], harness := (true, "5cbf62bc1dc09de5dc6bf1c650a87f48453633e5e6fb69032fc7cd5de87f5f9f"), looks := true }, kinds := [], alts := [], laidByText := true, laidKinds := [.data, .data, .data, .data, .sentinel, .sentinel, .pinned], laidTests := true, laidLooks := .later }
def CommandPrintsUptoCardSaid : Prop := Claim7.holds Tryd.pinned (.plain (OpenSpec.upto commandPrintsSpec)) commandPrintsUptoCard

/-- THE SECOND FORM's CARD OF 'oakumlaw21.CommandParses'. -/
def commandParsesUptoCard : Claim7 := { stood := { row := commandParsesUptoRow, standIns := [], harness := (true, "5cbf62bc1dc09de5dc6bf1c650a87f48453633e5e6fb69032fc7cd5de87f5f9f"), looks := true }, kinds := [], alts := [], laidByText := true, laidKinds := [.data, .data, .data, .data, .sentinel, .sentinel, .pinned], laidTests := true, laidLooks := .later }
def CommandParsesUptoCardSaid : Prop := Claim7.holds Tryd.pinned (.plain (OpenSpec.upto commandParsesSpec)) commandParsesUptoCard
end Rows
end Go.Proofs.YtlinnmllbbmnpaaDoor
