/-
  DERIVED. GIVEN WITH THE SEED: THE CARDS: each row of YtpggonlijnfaeaaDoorRows.lean that lists a variable, with what it lists TIED to the program's text (the seventh form; the later family's looks); each row that meets fmt, with fmt's text TOLD by the authors' own Lean function (tested against real Go, not proved from fmt's source: count such statements apart). THE CARD IS WHAT COUNTS. Prove the row's statement (the work); the ties are given (YtpggonlijnfaeaaDoorTie.lean); close each card by the builder's one call (the guide's Derived/Test/ToyasCard.lean, 'card_holds'). Laid BY PROGRAM, IN A SANDBOX (cutbox-door.mjs). By AI agents, Wed Nov 11 2026. No macro, syntax, notation, axiom, sorry.
-/
import Derived.Test.YtpggonlijnfaeaaDoorRows
import GoSem.ClaimSeven
namespace Go.Proofs.YtpggonlijnfaeaaDoor
namespace Rows

/-- THE TIED CARD OF 'tiklaw13.KeyWrites'. -/
def keyWritesCard : Claim7 := { stood := { row := keyWritesRow, standIns := [], harness := (true, "401a983018371b2c78cf662e2bf5d9c7499a56d5f19178a35eb1ec70f2e5cb9b"), looks := false }, kinds := [], alts := [], laidByText := true, laidKinds := [.widerDeep, .widerDeep], laidTests := true, laidLooks := .later }
def KeyWritesCardSaid : Prop := Claim7.holds Tryd.pinned (.plain (OpenSpec.ofChange keyWritesSpec)) keyWritesCard

/-- THE TIED CARD OF 'tiklaw13.KeyShort'. -/
def keyShortCard : Claim7 := { stood := { row := keyShortRow, standIns := [], harness := (true, "401a983018371b2c78cf662e2bf5d9c7499a56d5f19178a35eb1ec70f2e5cb9b"), looks := false }, kinds := [], alts := [], laidByText := true, laidKinds := [.widerDeep, .widerDeep], laidTests := true, laidLooks := .later }
def KeyShortCardSaid : Prop := Claim7.holds Tryd.pinned (.plain (OpenSpec.ofChange keyShortSpec)) keyShortCard

/-- THE SECOND FORM's CARD OF 'tiklaw13.KeyWrites'. -/
def keyWritesUptoCard : Claim7 := { stood := { row := keyWritesUptoRow, standIns := [], harness := (true, "401a983018371b2c78cf662e2bf5d9c7499a56d5f19178a35eb1ec70f2e5cb9b"), looks := false }, kinds := [], alts := [], laidByText := true, laidKinds := [.widerDeep, .widerDeep], laidTests := true, laidLooks := .later }
def KeyWritesUptoCardSaid : Prop := Claim7.holds Tryd.pinned (.plain (OpenSpec.upto keyWritesSpec)) keyWritesUptoCard

/-- THE SECOND FORM's CARD OF 'tiklaw13.KeyShort'. -/
def keyShortUptoCard : Claim7 := { stood := { row := keyShortUptoRow, standIns := [], harness := (true, "401a983018371b2c78cf662e2bf5d9c7499a56d5f19178a35eb1ec70f2e5cb9b"), looks := false }, kinds := [], alts := [], laidByText := true, laidKinds := [.widerDeep, .widerDeep], laidTests := true, laidLooks := .later }
def KeyShortUptoCardSaid : Prop := Claim7.holds Tryd.pinned (.plain (OpenSpec.upto keyShortSpec)) keyShortUptoCard
end Rows
end Go.Proofs.YtpggonlijnfaeaaDoor
