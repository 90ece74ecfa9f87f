/-
  DERIVED. GIVEN WITH THE SEED: THE CARDS: each row of YtmbdpcamhkdkmaaGreatDoorRows.lean that lists a variable, with what it lists TIED to the program's text (the seventh form; the later family's looks); each row that meets fmt, with fmt's text TOLD by the authors' own Lean function (tested against real Go, not proved from fmt's source: count such statements apart). THE CARD IS WHAT COUNTS. Prove the row's statement (the work); the ties are given (YtmbdpcamhkdkmaaGreatDoorTie.lean); close each card by the builder's one call (the guide's Derived/Test/ToyasCard.lean, 'card_holds'). Laid BY PROGRAM, IN A SANDBOX (cutbox-door.mjs). By AI agents, Wed Nov 11 2026. No macro, syntax, notation, axiom, sorry.
-/
import Derived.Test.YtmbdpcamhkdkmaaGreatDoorRows
import GoSem.ClaimSeven
namespace Go.Proofs.YtmbdpcamhkdkmaaGreatDoor
namespace Rows

/-- THE TIED CARD OF 'tiklaw14.DiffTells'. -/
def diffTellsCard : Claim7 := { stood := { row := diffTellsRow, standIns := [], harness := (true, "c6fcce880ba133f1c6ca160c380d8cfb84fcc4ef1a8060887a5e3b6dd45fec85"), looks := true }, kinds := [], alts := [], laidByText := true, laidKinds := [.widerDeep, .widerDeep], laidTests := true, laidLooks := .later }
def DiffTellsCardSaid : Prop := Claim7.holds Tryz.pinned (.plain (OpenSpec.ofChange diffTellsSpec)) diffTellsCard

/-- THE SECOND FORM's CARD OF 'tiklaw14.DiffTells'. -/
def diffTellsUptoCard : Claim7 := { stood := { row := diffTellsUptoRow, standIns := [], harness := (true, "c6fcce880ba133f1c6ca160c380d8cfb84fcc4ef1a8060887a5e3b6dd45fec85"), looks := true }, kinds := [], alts := [], laidByText := true, laidKinds := [.widerDeep, .widerDeep], laidTests := true, laidLooks := .later }
def DiffTellsUptoCardSaid : Prop := Claim7.holds Tryz.pinned (.plain (OpenSpec.upto diffTellsSpec)) diffTellsUptoCard
end Rows
end Go.Proofs.YtmbdpcamhkdkmaaGreatDoor
