/-
  DERIVED. GIVEN WITH THE SEED: THE CARDS: each row of YtioabdoghophlaaDoorRows.lean that lists a variable, with what it lists TIED to the program's text (the seventh form; the later family's looks); each row that meets fmt, with fmt's text TOLD by the authors' own Lean function (tested against real Go, not proved from fmt's source: count such statements apart). THE CARD IS WHAT COUNTS. Prove the row's statement (the work); the ties are given (YtioabdoghophlaaDoorTie.lean); close each card by the builder's one call (the guide's Derived/Test/ToyasCard.lean, 'card_holds'). Laid BY PROGRAM, IN A SANDBOX (cutbox-door.mjs). By AI agents, Wed Nov 11 2026. No macro, syntax, notation, axiom, sorry.
-/
import Derived.Test.YtioabdoghophlaaDoorRows
import GoSem.ClaimSeven
namespace Go.Proofs.YtioabdoghophlaaDoor
namespace Rows

/-- THE TIED CARD OF 'tiklaw13.KeyRuns'. -/
def keyRunsCard : Claim7 := { stood := { row := keyRunsRow, standIns := [], harness := (true, "c82923919250d155e019fb0fa59e043e49334b91d465ed5d19d4e040780f64de"), looks := true }, kinds := [], alts := [], laidByText := true, laidKinds := [.widerDeep, .widerDeep], laidTests := true, laidLooks := .later }
def KeyRunsCardSaid : Prop := Claim7.holds Tryd.pinned (.plain (OpenSpec.ofChange keyRunsSpec)) keyRunsCard

/-- THE TIED CARD OF 'tiklaw13.KeyReads'. -/
def keyReadsCard : Claim7 := { stood := { row := keyReadsRow, standIns := [], harness := (true, "c82923919250d155e019fb0fa59e043e49334b91d465ed5d19d4e040780f64de"), looks := true }, kinds := [], alts := [], laidByText := true, laidKinds := [.widerDeep, .widerDeep], laidTests := true, laidLooks := .later }
def KeyReadsCardSaid : Prop := Claim7.holds Tryd.pinned (.plain (OpenSpec.ofChange keyReadsSpec)) keyReadsCard

/-- THE TIED CARD OF 'tiklaw13.KeyBack'. -/
def keyBackCard : Claim7 := { stood := { row := keyBackRow, standIns := [], harness := (true, "c82923919250d155e019fb0fa59e043e49334b91d465ed5d19d4e040780f64de"), looks := true }, kinds := [], alts := [], laidByText := true, laidKinds := [.widerDeep, .widerDeep], laidTests := true, laidLooks := .later }
def KeyBackCardSaid : Prop := Claim7.holds Tryd.pinned (.plain (OpenSpec.ofChange keyBackSpec)) keyBackCard

/-- THE TIED CARD OF 'tiklaw14.DiffBack'. -/
def diffBackCard : Claim7 := { stood := { row := diffBackRow, standIns := [], harness := (true, "c82923919250d155e019fb0fa59e043e49334b91d465ed5d19d4e040780f64de"), looks := true }, kinds := [], alts := [], laidByText := true, laidKinds := [.widerDeep, .widerDeep], laidTests := true, laidLooks := .later }
def DiffBackCardSaid : Prop := Claim7.holds Tryd.pinned (.plain (OpenSpec.ofChange diffBackSpec)) diffBackCard

/-- THE TIED CARD OF 'tiklaw14.DiffSmall'. -/
def diffSmallCard : Claim7 := { stood := { row := diffSmallRow, standIns := [], harness := (true, "c82923919250d155e019fb0fa59e043e49334b91d465ed5d19d4e040780f64de"), looks := true }, kinds := [], alts := [], laidByText := true, laidKinds := [.widerDeep, .widerDeep], laidTests := true, laidLooks := .later }
def DiffSmallCardSaid : Prop := Claim7.holds Tryd.pinned (.plain (OpenSpec.ofChange diffSmallSpec)) diffSmallCard

/-- THE TIED CARD OF 'tiklaw14.DiffChain'. -/
def diffChainCard : Claim7 := { stood := { row := diffChainRow, standIns := [], harness := (true, "c82923919250d155e019fb0fa59e043e49334b91d465ed5d19d4e040780f64de"), looks := true }, kinds := [], alts := [], laidByText := true, laidKinds := [.widerDeep, .widerDeep], laidTests := true, laidLooks := .later }
def DiffChainCardSaid : Prop := Claim7.holds Tryd.pinned (.plain (OpenSpec.ofChange diffChainSpec)) diffChainCard

/-- THE TIED CARD OF 'tiklaw28.SyncShown'. -/
def syncShownCard : Claim7 := { stood := { row := syncShownRow, standIns := [], harness := (true, "c82923919250d155e019fb0fa59e043e49334b91d465ed5d19d4e040780f64de"), looks := true }, kinds := [], alts := [], laidByText := true, laidKinds := [.widerDeep, .widerDeep], laidTests := true, laidLooks := .later }
def SyncShownCardSaid : Prop := Claim7.holds Tryd.pinned (.plain (OpenSpec.ofChange syncShownSpec)) syncShownCard

/-- THE TIED CARD OF 'tiklaw28.SyncLost'. -/
def syncLostCard : Claim7 := { stood := { row := syncLostRow, standIns := [], harness := (true, "c82923919250d155e019fb0fa59e043e49334b91d465ed5d19d4e040780f64de"), looks := true }, kinds := [], alts := [], laidByText := true, laidKinds := [.widerDeep, .widerDeep], laidTests := true, laidLooks := .later }
def SyncLostCardSaid : Prop := Claim7.holds Tryd.pinned (.plain (OpenSpec.ofChange syncLostSpec)) syncLostCard

/-- THE SECOND FORM's CARD OF 'tiklaw13.KeyRuns'. -/
def keyRunsUptoCard : Claim7 := { stood := { row := keyRunsUptoRow, standIns := [], harness := (true, "c82923919250d155e019fb0fa59e043e49334b91d465ed5d19d4e040780f64de"), looks := true }, kinds := [], alts := [], laidByText := true, laidKinds := [.widerDeep, .widerDeep], laidTests := true, laidLooks := .later }
def KeyRunsUptoCardSaid : Prop := Claim7.holds Tryd.pinned (.plain (OpenSpec.upto keyRunsSpec)) keyRunsUptoCard

/-- THE SECOND FORM's CARD OF 'tiklaw13.KeyReads'. -/
def keyReadsUptoCard : Claim7 := { stood := { row := keyReadsUptoRow, standIns := [], harness := (true, "c82923919250d155e019fb0fa59e043e49334b91d465ed5d19d4e040780f64de"), looks := true }, kinds := [], alts := [], laidByText := true, laidKinds := [.widerDeep, .widerDeep], laidTests := true, laidLooks := .later }
def KeyReadsUptoCardSaid : Prop := Claim7.holds Tryd.pinned (.plain (OpenSpec.upto keyReadsSpec)) keyReadsUptoCard

/-- THE SECOND FORM's CARD OF 'tiklaw13.KeyBack'. -/
def keyBackUptoCard : Claim7 := { stood := { row := keyBackUptoRow, standIns := [], harness := (true, "c82923919250d155e019fb0fa59e043e49334b91d465ed5d19d4e040780f64de"), looks := true }, kinds := [], alts := [], laidByText := true, laidKinds := [.widerDeep, .widerDeep], laidTests := true, laidLooks := .later }
def KeyBackUptoCardSaid : Prop := Claim7.holds Tryd.pinned (.plain (OpenSpec.upto keyBackSpec)) keyBackUptoCard

/-- THE SECOND FORM's CARD OF 'tiklaw14.DiffBack'. -/
def diffBackUptoCard : Claim7 := { stood := { row := diffBackUptoRow, standIns := [], harness := (true, "c82923919250d155e019fb0fa59e043e49334b91d465ed5d19d4e040780f64de"), looks := true }, kinds := [], alts := [], laidByText := true, laidKinds := [.widerDeep, .widerDeep], laidTests := true, laidLooks := .later }
def DiffBackUptoCardSaid : Prop := Claim7.holds Tryd.pinned (.plain (OpenSpec.upto diffBackSpec)) diffBackUptoCard

/-- THE SECOND FORM's CARD OF 'tiklaw14.DiffSmall'. -/
def diffSmallUptoCard : Claim7 := { stood := { row := diffSmallUptoRow, standIns := [], harness := (true, "c82923919250d155e019fb0fa59e043e49334b91d465ed5d19d4e040780f64de"), looks := true }, kinds := [], alts := [], laidByText := true, laidKinds := [.widerDeep, .widerDeep], laidTests := true, laidLooks := .later }
def DiffSmallUptoCardSaid : Prop := Claim7.holds Tryd.pinned (.plain (OpenSpec.upto diffSmallSpec)) diffSmallUptoCard

/-- THE SECOND FORM's CARD OF 'tiklaw14.DiffChain'. -/
def diffChainUptoCard : Claim7 := { stood := { row := diffChainUptoRow, standIns := [], harness := (true, "c82923919250d155e019fb0fa59e043e49334b91d465ed5d19d4e040780f64de"), looks := true }, kinds := [], alts := [], laidByText := true, laidKinds := [.widerDeep, .widerDeep], laidTests := true, laidLooks := .later }
def DiffChainUptoCardSaid : Prop := Claim7.holds Tryd.pinned (.plain (OpenSpec.upto diffChainSpec)) diffChainUptoCard

/-- THE SECOND FORM's CARD OF 'tiklaw28.SyncShown'. -/
def syncShownUptoCard : Claim7 := { stood := { row := syncShownUptoRow, standIns := [], harness := (true, "c82923919250d155e019fb0fa59e043e49334b91d465ed5d19d4e040780f64de"), looks := true }, kinds := [], alts := [], laidByText := true, laidKinds := [.widerDeep, .widerDeep], laidTests := true, laidLooks := .later }
def SyncShownUptoCardSaid : Prop := Claim7.holds Tryd.pinned (.plain (OpenSpec.upto syncShownSpec)) syncShownUptoCard

/-- THE SECOND FORM's CARD OF 'tiklaw28.SyncLost'. -/
def syncLostUptoCard : Claim7 := { stood := { row := syncLostUptoRow, standIns := [], harness := (true, "c82923919250d155e019fb0fa59e043e49334b91d465ed5d19d4e040780f64de"), looks := true }, kinds := [], alts := [], laidByText := true, laidKinds := [.widerDeep, .widerDeep], laidTests := true, laidLooks := .later }
def SyncLostUptoCardSaid : Prop := Claim7.holds Tryd.pinned (.plain (OpenSpec.upto syncLostSpec)) syncLostUptoCard
end Rows
end Go.Proofs.YtioabdoghophlaaDoor
