/-
  DERIVED. GIVEN WITH THE SEED: THE CARDS: each row of YtiojhfaeeelfeaaDoorRows.lean that lists a variable, with what it lists TIED to the program's text (the seventh form; the later family's looks); each row that meets fmt, with fmt's text TOLD by the authors' own Lean function (tested against real Go, not proved from fmt's source: count such statements apart). THE CARD IS WHAT COUNTS. Prove the row's statement (the work); the ties are given (YtiojhfaeeelfeaaDoorTie.lean); close each card by the builder's one call (the guide's Derived/Test/ToyasCard.lean, 'card_holds'). Laid BY PROGRAM, IN A SANDBOX (cutbox-door.mjs). By AI agents, Wed Nov 11 2026. No macro, syntax, notation, axiom, sorry.
-/
import Derived.Test.YtiojhfaeeelfeaaDoorRows
import GoSem.ClaimSeven
namespace Go.Proofs.YtiojhfaeeelfeaaDoor
namespace Rows

/-- THE TIED CARD OF 'tiklaw13.KeyReads'. -/
def keyReadsCard : Claim7 := { stood := { row := keyReadsRow, standIns := [], harness := (true, "6d8e32c9c4c40f5b4433a391c68751f06d9fea43fa3fd7163c3771386c21eafa"), looks := true }, kinds := [], alts := [], laidByText := true, laidKinds := [.widerDeep, .widerDeep], laidTests := true, laidLooks := .later }
def KeyReadsCardSaid : Prop := Claim7.holds Tryd.pinned (.plain (OpenSpec.ofChange keyReadsSpec)) keyReadsCard

/-- THE TIED CARD OF 'tiklaw13.KeyBack'. -/
def keyBackCard : Claim7 := { stood := { row := keyBackRow, standIns := [], harness := (true, "6d8e32c9c4c40f5b4433a391c68751f06d9fea43fa3fd7163c3771386c21eafa"), looks := true }, kinds := [], alts := [], laidByText := true, laidKinds := [.widerDeep, .widerDeep], laidTests := true, laidLooks := .later }
def KeyBackCardSaid : Prop := Claim7.holds Tryd.pinned (.plain (OpenSpec.ofChange keyBackSpec)) keyBackCard

/-- THE TIED CARD OF 'tiklaw14.DiffBack'. -/
def diffBackCard : Claim7 := { stood := { row := diffBackRow, standIns := [], harness := (true, "6d8e32c9c4c40f5b4433a391c68751f06d9fea43fa3fd7163c3771386c21eafa"), looks := true }, kinds := [], alts := [], laidByText := true, laidKinds := [.widerDeep, .widerDeep], laidTests := true, laidLooks := .later }
def DiffBackCardSaid : Prop := Claim7.holds Tryd.pinned (.plain (OpenSpec.ofChange diffBackSpec)) diffBackCard

/-- THE TIED CARD OF 'tiklaw14.DiffSmall'. -/
def diffSmallCard : Claim7 := { stood := { row := diffSmallRow, standIns := [], harness := (true, "6d8e32c9c4c40f5b4433a391c68751f06d9fea43fa3fd7163c3771386c21eafa"), looks := true }, kinds := [], alts := [], laidByText := true, laidKinds := [.widerDeep, .widerDeep], laidTests := true, laidLooks := .later }
def DiffSmallCardSaid : Prop := Claim7.holds Tryd.pinned (.plain (OpenSpec.ofChange diffSmallSpec)) diffSmallCard

/-- THE TIED CARD OF 'tiklaw14.DiffChain'. -/
def diffChainCard : Claim7 := { stood := { row := diffChainRow, standIns := [], harness := (true, "6d8e32c9c4c40f5b4433a391c68751f06d9fea43fa3fd7163c3771386c21eafa"), looks := true }, kinds := [], alts := [], laidByText := true, laidKinds := [.widerDeep, .widerDeep], laidTests := true, laidLooks := .later }
def DiffChainCardSaid : Prop := Claim7.holds Tryd.pinned (.plain (OpenSpec.ofChange diffChainSpec)) diffChainCard

/-- THE SECOND FORM's CARD OF 'tiklaw13.KeyReads'. -/
def keyReadsUptoCard : Claim7 := { stood := { row := keyReadsUptoRow, standIns := [], harness := (true, "6d8e32c9c4c40f5b4433a391c68751f06d9fea43fa3fd7163c3771386c21eafa"), looks := true }, kinds := [], alts := [], laidByText := true, laidKinds := [.widerDeep, .widerDeep], laidTests := true, laidLooks := .later }
def KeyReadsUptoCardSaid : Prop := Claim7.holds Tryd.pinned (.plain (OpenSpec.upto keyReadsSpec)) keyReadsUptoCard

/-- THE SECOND FORM's CARD OF 'tiklaw13.KeyBack'. -/
def keyBackUptoCard : Claim7 := { stood := { row := keyBackUptoRow, standIns := [], harness := (true, "6d8e32c9c4c40f5b4433a391c68751f06d9fea43fa3fd7163c3771386c21eafa"), looks := true }, kinds := [], alts := [], laidByText := true, laidKinds := [.widerDeep, .widerDeep], laidTests := true, laidLooks := .later }
def KeyBackUptoCardSaid : Prop := Claim7.holds Tryd.pinned (.plain (OpenSpec.upto keyBackSpec)) keyBackUptoCard

/-- THE SECOND FORM's CARD OF 'tiklaw14.DiffBack'. -/
def diffBackUptoCard : Claim7 := { stood := { row := diffBackUptoRow, standIns := [], harness := (true, "6d8e32c9c4c40f5b4433a391c68751f06d9fea43fa3fd7163c3771386c21eafa"), looks := true }, kinds := [], alts := [], laidByText := true, laidKinds := [.widerDeep, .widerDeep], laidTests := true, laidLooks := .later }
def DiffBackUptoCardSaid : Prop := Claim7.holds Tryd.pinned (.plain (OpenSpec.upto diffBackSpec)) diffBackUptoCard

/-- THE SECOND FORM's CARD OF 'tiklaw14.DiffSmall'. -/
def diffSmallUptoCard : Claim7 := { stood := { row := diffSmallUptoRow, standIns := [], harness := (true, "6d8e32c9c4c40f5b4433a391c68751f06d9fea43fa3fd7163c3771386c21eafa"), looks := true }, kinds := [], alts := [], laidByText := true, laidKinds := [.widerDeep, .widerDeep], laidTests := true, laidLooks := .later }
def DiffSmallUptoCardSaid : Prop := Claim7.holds Tryd.pinned (.plain (OpenSpec.upto diffSmallSpec)) diffSmallUptoCard

/-- THE SECOND FORM's CARD OF 'tiklaw14.DiffChain'. -/
def diffChainUptoCard : Claim7 := { stood := { row := diffChainUptoRow, standIns := [], harness := (true, "6d8e32c9c4c40f5b4433a391c68751f06d9fea43fa3fd7163c3771386c21eafa"), looks := true }, kinds := [], alts := [], laidByText := true, laidKinds := [.widerDeep, .widerDeep], laidTests := true, laidLooks := .later }
def DiffChainUptoCardSaid : Prop := Claim7.holds Tryd.pinned (.plain (OpenSpec.upto diffChainSpec)) diffChainUptoCard
end Rows
end Go.Proofs.YtiojhfaeeelfeaaDoor
