/-
  DERIVED. GIVEN WITH THE SEED: THE CARDS: each row of YtajcefdbljbmdaaDoorRows.lean that lists a variable, with what it lists TIED to the program's text (the seventh form; the later family's looks); each row that meets fmt, with fmt's text TOLD by the authors' own Lean function (tested against real Go, not proved from fmt's source: count such statements apart). THE CARD IS WHAT COUNTS. Prove the row's statement (the work); the ties are given (YtajcefdbljbmdaaDoorTie.lean); close each card by the builder's one call (the guide's Derived/Test/ToyasCard.lean, 'card_holds'). Laid BY PROGRAM, IN A SANDBOX (cutbox-door.mjs). By AI agents, Wed Nov 11 2026. No macro, syntax, notation, axiom, sorry.
-/
import Derived.Test.YtajcefdbljbmdaaDoorRows
import GoSem.ClaimSeven
namespace Go.Proofs.YtajcefdbljbmdaaDoor
namespace Rows

/-- THE TIED CARD OF 'tiklaw4.MacLong'. -/
def macLongCard : Claim7 := { stood := { row := macLongRow, standIns := [], harness := (true, "d380a203930497301673762921efd36c5f51e3ce2487941847c1a9dd47ef66f9"), looks := false }, kinds := [], alts := [], laidByText := true, laidKinds := [.data], laidTests := true, laidLooks := .later }
def MacLongCardSaid : Prop := Claim7.holds Tryd.pinned (.plain (OpenSpec.ofChange macLongSpec)) macLongCard

/-- THE TIED CARD OF 'tiklaw4.MacSums'. -/
def macSumsCard : Claim7 := { stood := { row := macSumsRow, standIns := [], harness := (true, "d380a203930497301673762921efd36c5f51e3ce2487941847c1a9dd47ef66f9"), looks := false }, kinds := [], alts := [], laidByText := true, laidKinds := [.data], laidTests := true, laidLooks := .later }
def MacSumsCardSaid : Prop := Claim7.holds Tryd.pinned (.plain (OpenSpec.ofChange macSumsSpec)) macSumsCard

/-- THE TIED CARD OF 'tiklaw4.MacCuts'. -/
def macCutsCard : Claim7 := { stood := { row := macCutsRow, standIns := [], harness := (true, "d380a203930497301673762921efd36c5f51e3ce2487941847c1a9dd47ef66f9"), looks := false }, kinds := [], alts := [], laidByText := true, laidKinds := [.data], laidTests := true, laidLooks := .later }
def MacCutsCardSaid : Prop := Claim7.holds Tryd.pinned (.plain (OpenSpec.ofChange macCutsSpec)) macCutsCard

/-- THE TIED CARD OF 'tiklaw25.PktWindow'. -/
def pktWindowCard : Claim7 := { stood := { row := pktWindowRow, standIns := [], harness := (true, "d380a203930497301673762921efd36c5f51e3ce2487941847c1a9dd47ef66f9"), looks := false }, kinds := [], alts := [], laidByText := true, laidKinds := [.data], laidTests := true, laidLooks := .later }
def PktWindowCardSaid : Prop := Claim7.holds Tryd.pinned (.plain (OpenSpec.ofChange pktWindowSpec)) pktWindowCard

/-- THE TIED CARD OF 'tiklaw25.PktTells'. -/
def pktTellsCard : Claim7 := { stood := { row := pktTellsRow, standIns := [], harness := (true, "d380a203930497301673762921efd36c5f51e3ce2487941847c1a9dd47ef66f9"), looks := false }, kinds := [], alts := [], laidByText := true, laidKinds := [.data], laidTests := true, laidLooks := .later }
def PktTellsCardSaid : Prop := Claim7.holds Tryd.pinned (.plain (OpenSpec.ofChange pktTellsSpec)) pktTellsCard

/-- THE TIED CARD OF 'tiklaw25.PktBack'. -/
def pktBackCard : Claim7 := { stood := { row := pktBackRow, standIns := [], harness := (true, "d380a203930497301673762921efd36c5f51e3ce2487941847c1a9dd47ef66f9"), looks := false }, kinds := [], alts := [], laidByText := true, laidKinds := [.data], laidTests := true, laidLooks := .later }
def PktBackCardSaid : Prop := Claim7.holds Tryd.pinned (.plain (OpenSpec.ofChange pktBackSpec)) pktBackCard

/-- THE TIED CARD OF 'tiklaw25.PktApart'. -/
def pktApartCard : Claim7 := { stood := { row := pktApartRow, standIns := [], harness := (true, "d380a203930497301673762921efd36c5f51e3ce2487941847c1a9dd47ef66f9"), looks := false }, kinds := [], alts := [], laidByText := true, laidKinds := [.data], laidTests := true, laidLooks := .later }
def PktApartCardSaid : Prop := Claim7.holds Tryd.pinned (.plain (OpenSpec.ofChange pktApartSpec)) pktApartCard

/-- THE TIED CARD OF 'tiklaw27.PeerPlays'. -/
def peerPlaysCard : Claim7 := { stood := { row := peerPlaysRow, standIns := [], harness := (true, "d380a203930497301673762921efd36c5f51e3ce2487941847c1a9dd47ef66f9"), looks := false }, kinds := [], alts := [], laidByText := true, laidKinds := [.data], laidTests := true, laidLooks := .later }
def PeerPlaysCardSaid : Prop := Claim7.holds Tryd.pinned (.plain (OpenSpec.ofChange peerPlaysSpec)) peerPlaysCard

/-- THE TIED CARD OF 'tiklaw27.PeerOnce'. -/
def peerOnceCard : Claim7 := { stood := { row := peerOnceRow, standIns := [], harness := (true, "d380a203930497301673762921efd36c5f51e3ce2487941847c1a9dd47ef66f9"), looks := false }, kinds := [], alts := [], laidByText := true, laidKinds := [.data], laidTests := true, laidLooks := .later }
def PeerOnceCardSaid : Prop := Claim7.holds Tryd.pinned (.plain (OpenSpec.ofChange peerOnceSpec)) peerOnceCard

/-- THE TIED CARD OF 'tiklaw27.PeerRoams'. -/
def peerRoamsCard : Claim7 := { stood := { row := peerRoamsRow, standIns := [], harness := (true, "d380a203930497301673762921efd36c5f51e3ce2487941847c1a9dd47ef66f9"), looks := false }, kinds := [], alts := [], laidByText := true, laidKinds := [.data], laidTests := true, laidLooks := .later }
def PeerRoamsCardSaid : Prop := Claim7.holds Tryd.pinned (.plain (OpenSpec.ofChange peerRoamsSpec)) peerRoamsCard

/-- THE SECOND FORM's CARD OF 'tiklaw4.MacLong'. -/
def macLongUptoCard : Claim7 := { stood := { row := macLongUptoRow, standIns := [], harness := (true, "d380a203930497301673762921efd36c5f51e3ce2487941847c1a9dd47ef66f9"), looks := false }, kinds := [], alts := [], laidByText := true, laidKinds := [.data], laidTests := true, laidLooks := .later }
def MacLongUptoCardSaid : Prop := Claim7.holds Tryd.pinned (.plain (OpenSpec.upto macLongSpec)) macLongUptoCard

/-- THE SECOND FORM's CARD OF 'tiklaw4.MacSums'. -/
def macSumsUptoCard : Claim7 := { stood := { row := macSumsUptoRow, standIns := [], harness := (true, "d380a203930497301673762921efd36c5f51e3ce2487941847c1a9dd47ef66f9"), looks := false }, kinds := [], alts := [], laidByText := true, laidKinds := [.data], laidTests := true, laidLooks := .later }
def MacSumsUptoCardSaid : Prop := Claim7.holds Tryd.pinned (.plain (OpenSpec.upto macSumsSpec)) macSumsUptoCard

/-- THE SECOND FORM's CARD OF 'tiklaw4.MacCuts'. -/
def macCutsUptoCard : Claim7 := { stood := { row := macCutsUptoRow, standIns := [], harness := (true, "d380a203930497301673762921efd36c5f51e3ce2487941847c1a9dd47ef66f9"), looks := false }, kinds := [], alts := [], laidByText := true, laidKinds := [.data], laidTests := true, laidLooks := .later }
def MacCutsUptoCardSaid : Prop := Claim7.holds Tryd.pinned (.plain (OpenSpec.upto macCutsSpec)) macCutsUptoCard

/-- THE SECOND FORM's CARD OF 'tiklaw25.PktWindow'. -/
def pktWindowUptoCard : Claim7 := { stood := { row := pktWindowUptoRow, standIns := [], harness := (true, "d380a203930497301673762921efd36c5f51e3ce2487941847c1a9dd47ef66f9"), looks := false }, kinds := [], alts := [], laidByText := true, laidKinds := [.data], laidTests := true, laidLooks := .later }
def PktWindowUptoCardSaid : Prop := Claim7.holds Tryd.pinned (.plain (OpenSpec.upto pktWindowSpec)) pktWindowUptoCard

/-- THE SECOND FORM's CARD OF 'tiklaw25.PktTells'. -/
def pktTellsUptoCard : Claim7 := { stood := { row := pktTellsUptoRow, standIns := [], harness := (true, "d380a203930497301673762921efd36c5f51e3ce2487941847c1a9dd47ef66f9"), looks := false }, kinds := [], alts := [], laidByText := true, laidKinds := [.data], laidTests := true, laidLooks := .later }
def PktTellsUptoCardSaid : Prop := Claim7.holds Tryd.pinned (.plain (OpenSpec.upto pktTellsSpec)) pktTellsUptoCard

/-- THE SECOND FORM's CARD OF 'tiklaw25.PktBack'. -/
def pktBackUptoCard : Claim7 := { stood := { row := pktBackUptoRow, standIns := [], harness := (true, "d380a203930497301673762921efd36c5f51e3ce2487941847c1a9dd47ef66f9"), looks := false }, kinds := [], alts := [], laidByText := true, laidKinds := [.data], laidTests := true, laidLooks := .later }
def PktBackUptoCardSaid : Prop := Claim7.holds Tryd.pinned (.plain (OpenSpec.upto pktBackSpec)) pktBackUptoCard

/-- THE SECOND FORM's CARD OF 'tiklaw25.PktApart'. -/
def pktApartUptoCard : Claim7 := { stood := { row := pktApartUptoRow, standIns := [], harness := (true, "d380a203930497301673762921efd36c5f51e3ce2487941847c1a9dd47ef66f9"), looks := false }, kinds := [], alts := [], laidByText := true, laidKinds := [.data], laidTests := true, laidLooks := .later }
def PktApartUptoCardSaid : Prop := Claim7.holds Tryd.pinned (.plain (OpenSpec.upto pktApartSpec)) pktApartUptoCard

/-- THE SECOND FORM's CARD OF 'tiklaw27.PeerPlays'. -/
def peerPlaysUptoCard : Claim7 := { stood := { row := peerPlaysUptoRow, standIns := [], harness := (true, "d380a203930497301673762921efd36c5f51e3ce2487941847c1a9dd47ef66f9"), looks := false }, kinds := [], alts := [], laidByText := true, laidKinds := [.data], laidTests := true, laidLooks := .later }
def PeerPlaysUptoCardSaid : Prop := Claim7.holds Tryd.pinned (.plain (OpenSpec.upto peerPlaysSpec)) peerPlaysUptoCard

/-- THE SECOND FORM's CARD OF 'tiklaw27.PeerOnce'. -/
def peerOnceUptoCard : Claim7 := { stood := { row := peerOnceUptoRow, standIns := [], harness := (true, "d380a203930497301673762921efd36c5f51e3ce2487941847c1a9dd47ef66f9"), looks := false }, kinds := [], alts := [], laidByText := true, laidKinds := [.data], laidTests := true, laidLooks := .later }
def PeerOnceUptoCardSaid : Prop := Claim7.holds Tryd.pinned (.plain (OpenSpec.upto peerOnceSpec)) peerOnceUptoCard

/-- THE SECOND FORM's CARD OF 'tiklaw27.PeerRoams'. -/
def peerRoamsUptoCard : Claim7 := { stood := { row := peerRoamsUptoRow, standIns := [], harness := (true, "d380a203930497301673762921efd36c5f51e3ce2487941847c1a9dd47ef66f9"), looks := false }, kinds := [], alts := [], laidByText := true, laidKinds := [.data], laidTests := true, laidLooks := .later }
def PeerRoamsUptoCardSaid : Prop := Claim7.holds Tryd.pinned (.plain (OpenSpec.upto peerRoamsSpec)) peerRoamsUptoCard
end Rows
end Go.Proofs.YtajcefdbljbmdaaDoor
