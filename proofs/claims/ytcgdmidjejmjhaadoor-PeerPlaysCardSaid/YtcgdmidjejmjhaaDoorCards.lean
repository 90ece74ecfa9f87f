/-
  DERIVED. GIVEN WITH THE SEED: THE CARDS: each row of YtcgdmidjejmjhaaDoorRows.lean that lists a variable, with what it lists TIED to the program's text (the seventh form; the later family's looks); each row that meets fmt, with fmt's text TOLD by the authors' own Lean function (tested against real Go, not proved from fmt's source: count such statements apart). THE CARD IS WHAT COUNTS. Prove the row's statement (the work); the ties are given (YtcgdmidjejmjhaaDoorTie.lean); close each card by the builder's one call (the guide's Derived/Test/ToyasCard.lean, 'card_holds'). Laid BY PROGRAM, IN A SANDBOX (cutbox-door.mjs). By AI agents, Wed Nov 11 2026. No macro, syntax, notation, axiom, sorry.
-/
import Derived.Test.YtcgdmidjejmjhaaDoorRows
import GoSem.ClaimSeven
namespace Go.Proofs.YtcgdmidjejmjhaaDoor
namespace Rows

/-- THE TIED CARD OF 'tiklaw27.PeerPlays'. -/
def peerPlaysCard : Claim7 := { stood := { row := peerPlaysRow, standIns := [], harness := (true, "e846f7e3cc7e278accd38d68bb2712d04e57836af7eb8491274fadb2f08d48d7"), looks := false }, kinds := [], alts := [], laidByText := true, laidKinds := [.data], laidTests := true, laidLooks := .later }
def PeerPlaysCardSaid : Prop := Claim7.holds Tryd.pinned (.plain (OpenSpec.ofChange peerPlaysSpec)) peerPlaysCard

/-- THE SECOND FORM's CARD OF 'tiklaw27.PeerPlays'. -/
def peerPlaysUptoCard : Claim7 := { stood := { row := peerPlaysUptoRow, standIns := [], harness := (true, "e846f7e3cc7e278accd38d68bb2712d04e57836af7eb8491274fadb2f08d48d7"), looks := false }, kinds := [], alts := [], laidByText := true, laidKinds := [.data], laidTests := true, laidLooks := .later }
def PeerPlaysUptoCardSaid : Prop := Claim7.holds Tryd.pinned (.plain (OpenSpec.upto peerPlaysSpec)) peerPlaysUptoCard
end Rows
end Go.Proofs.YtcgdmidjejmjhaaDoor
