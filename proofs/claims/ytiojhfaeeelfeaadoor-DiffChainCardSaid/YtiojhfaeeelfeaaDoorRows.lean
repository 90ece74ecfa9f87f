/-
  NARROWER THAN 'FOR EVERY INPUT', by the rows' own cells (each row's printed sentence says how): KeyReads: laid · KeyBack: laid · DiffBack: laid · DiffSmall: laid · DiffChain: laid.
  DERIVED. THE GIVEN ROWS OF THIS SEAT. 5 by the template 'for every input the law returns true; each argument reads behind the call as it read before'; 0 by the template 'total and deterministic' (their statements: YtiojhfaeeelfeaaDoorTotals.lean).
  GIVEN WITH THE SEED: the statements are not yours to turn. If you find one false, say at which input.
  Laid BY PROGRAM, IN A SANDBOX (cutbox-rows.mjs): the forced cells as the released guide's own fill.sh prints them over the translation 16e45a5a0acf9f5e… (all of the seat's roots in one cut). By AI agents, Wed Nov 11 2026. No macro, syntax, notation, axiom, sorry.
-/
import Derived.Test.YtiojhfaeeelfeaaDoorChecked
import GoSem.Claim
import GoSem.ClaimJoined
import GoSem.ClaimMapViews
import Derived.JoinedTies
import Derived.KernelRfl
namespace Go.Proofs.YtiojhfaeeelfeaaDoor
/- THE CELL 'sum', in the pinned program and in every row, IS THE sha256 OF THE DUMP (.gsa) THAT YtiojhfaeeelfeaaDoorProg.lean LOADS. Nothing in Lean hashes anything: it is a label: what it is worth is what the hold of that sum in a sandbox is worth. -/
noncomputable def Tryd.pinned : Pinned := { name := "ytiojhfaeeelfeaadoor", sum := "16e45a5a0acf9f5ec248495bfc97f24966ffa57fb264a3e340eeabafd19435a7", checked := Tryd.checked }
namespace Rows
def none {H : Type} : Left H := { results := [], args := [] }

/- WHAT THE LISTED PACKAGE-LEVEL VARIABLES READ AS WHEN THE CALL BEGINS. Each datum BY PROGRAM (the guide's laid-datum.mjs) off the statement by which the dump's own 'gosem.cut.vars' lays the variable. In a bare row this is a premise. The card (YtiojhfaeeelfeaaDoorCards.lean) ties it to the program's text. -/
def laid_tickertape_cell_wide {H : Type} : DataW H := .agg [.agg [.lit (.int .i32 4352), .lit (.int .i32 4447)], .agg [.lit (.int .i32 11904), .lit (.int .i32 42191)], .agg [.lit (.int .i32 44032), .lit (.int .i32 55203)], .agg [.lit (.int .i32 63744), .lit (.int .i32 64255)], .agg [.lit (.int .i32 65072), .lit (.int .i32 65135)], .agg [.lit (.int .i32 65280), .lit (.int .i32 65376)], .agg [.lit (.int .i32 65504), .lit (.int .i32 65510)], .agg [.lit (.int .i32 127744), .lit (.int .i32 128591)], .agg [.lit (.int .i32 129280), .lit (.int .i32 129535)], .agg [.lit (.int .i32 131072), .lit (.int .i32 262141)]]
def laid_tickertape_cell_none {H : Type} : DataW H := .agg [.agg [.lit (.int .i32 0), .lit (.int .i32 31)], .agg [.lit (.int .i32 127), .lit (.int .i32 159)], .agg [.lit (.int .i32 768), .lit (.int .i32 879)], .agg [.lit (.int .i32 55296), .lit (.int .i32 57343)]]

/-- 'tiklaw13.KeyReads': WHATEVER THE INPUT: true; the input reads as it did. -/
def keyReadsSpec : ChangeSpec := { name := "keyReads", fn := fun _ => fun
  | [d1, d2] => { results := [.lit (.bool true)], args := [d1, d2] }
  | _ => none }
def keyReadsRow : OpenClaim := { program := "ytiojhfaeeelfeaadoor", sum := "16e45a5a0acf9f5ec248495bfc97f24966ffa57fb264a3e340eeabafd19435a7", func := "tickertape/tiklaw13.KeyReads", spec := "keyReads", unfollowed := true, recurses := true, named := ["tickertape/cell.none", "tickertape/cell.wide"], apart := false, laid := [("tickertape/cell.wide", laid_tickertape_cell_wide), ("tickertape/cell.none", laid_tickertape_cell_none)] }
def KeyReadsSaid : Prop := keyReadsRow.holds Tryd.pinned (OpenSpec.ofChange keyReadsSpec)

/-- ITS FALSE NEIGHBOUR: 'it returns false'. Refute it at one input. -/
def keyReadsWrong : ChangeSpec := { name := "keyReads", fn := fun _ => fun
  | [d1, d2] => { results := [.lit (.bool false)], args := [d1, d2] }
  | _ => none }
def KeyReadsWrongFalsely : Prop := keyReadsRow.holds Tryd.pinned (OpenSpec.ofChange keyReadsWrong)

/-- 'tiklaw13.KeyBack': WHATEVER THE INPUT: true; the input reads as it did. -/
def keyBackSpec : ChangeSpec := { name := "keyBack", fn := fun _ => fun
  | [d1, d2, d3, d4] => { results := [.lit (.bool true)], args := [d1, d2, d3, d4] }
  | _ => none }
def keyBackRow : OpenClaim := { program := "ytiojhfaeeelfeaadoor", sum := "16e45a5a0acf9f5ec248495bfc97f24966ffa57fb264a3e340eeabafd19435a7", func := "tickertape/tiklaw13.KeyBack", spec := "keyBack", unfollowed := true, recurses := true, named := ["tickertape/cell.none", "tickertape/cell.wide"], apart := false, laid := [("tickertape/cell.wide", laid_tickertape_cell_wide), ("tickertape/cell.none", laid_tickertape_cell_none)] }
def KeyBackSaid : Prop := keyBackRow.holds Tryd.pinned (OpenSpec.ofChange keyBackSpec)

/-- ITS FALSE NEIGHBOUR: 'it returns false'. Refute it at one input. -/
def keyBackWrong : ChangeSpec := { name := "keyBack", fn := fun _ => fun
  | [d1, d2, d3, d4] => { results := [.lit (.bool false)], args := [d1, d2, d3, d4] }
  | _ => none }
def KeyBackWrongFalsely : Prop := keyBackRow.holds Tryd.pinned (OpenSpec.ofChange keyBackWrong)

/-- 'tiklaw14.DiffBack': WHATEVER THE INPUT: true; the input reads as it did. -/
def diffBackSpec : ChangeSpec := { name := "diffBack", fn := fun _ => fun
  | [d1, d2, d3, d4] => { results := [.lit (.bool true)], args := [d1, d2, d3, d4] }
  | _ => none }
def diffBackRow : OpenClaim := { program := "ytiojhfaeeelfeaadoor", sum := "16e45a5a0acf9f5ec248495bfc97f24966ffa57fb264a3e340eeabafd19435a7", func := "tickertape/tiklaw14.DiffBack", spec := "diffBack", unfollowed := true, recurses := true, named := ["tickertape/cell.none", "tickertape/cell.wide"], apart := false, laid := [("tickertape/cell.wide", laid_tickertape_cell_wide), ("tickertape/cell.none", laid_tickertape_cell_none)] }
def DiffBackSaid : Prop := diffBackRow.holds Tryd.pinned (OpenSpec.ofChange diffBackSpec)

/-- ITS FALSE NEIGHBOUR: 'it returns false'. Refute it at one input. -/
def diffBackWrong : ChangeSpec := { name := "diffBack", fn := fun _ => fun
  | [d1, d2, d3, d4] => { results := [.lit (.bool false)], args := [d1, d2, d3, d4] }
  | _ => none }
def DiffBackWrongFalsely : Prop := diffBackRow.holds Tryd.pinned (OpenSpec.ofChange diffBackWrong)

/-- 'tiklaw14.DiffSmall': WHATEVER THE INPUT: true; the input reads as it did. -/
def diffSmallSpec : ChangeSpec := { name := "diffSmall", fn := fun _ => fun
  | [d1, d2, d3] => { results := [.lit (.bool true)], args := [d1, d2, d3] }
  | _ => none }
def diffSmallRow : OpenClaim := { program := "ytiojhfaeeelfeaadoor", sum := "16e45a5a0acf9f5ec248495bfc97f24966ffa57fb264a3e340eeabafd19435a7", func := "tickertape/tiklaw14.DiffSmall", spec := "diffSmall", unfollowed := true, recurses := true, named := ["tickertape/cell.none", "tickertape/cell.wide"], apart := false, laid := [("tickertape/cell.wide", laid_tickertape_cell_wide), ("tickertape/cell.none", laid_tickertape_cell_none)] }
def DiffSmallSaid : Prop := diffSmallRow.holds Tryd.pinned (OpenSpec.ofChange diffSmallSpec)

/-- ITS FALSE NEIGHBOUR: 'it returns false'. Refute it at one input. -/
def diffSmallWrong : ChangeSpec := { name := "diffSmall", fn := fun _ => fun
  | [d1, d2, d3] => { results := [.lit (.bool false)], args := [d1, d2, d3] }
  | _ => none }
def DiffSmallWrongFalsely : Prop := diffSmallRow.holds Tryd.pinned (OpenSpec.ofChange diffSmallWrong)

/-- 'tiklaw14.DiffChain': WHATEVER THE INPUT: true; the input reads as it did. -/
def diffChainSpec : ChangeSpec := { name := "diffChain", fn := fun _ => fun
  | [d] => { results := [.lit (.bool true)], args := [d] }
  | _ => none }
def diffChainRow : OpenClaim := { program := "ytiojhfaeeelfeaadoor", sum := "16e45a5a0acf9f5ec248495bfc97f24966ffa57fb264a3e340eeabafd19435a7", func := "tickertape/tiklaw14.DiffChain", spec := "diffChain", unfollowed := true, recurses := true, named := ["tickertape/cell.none", "tickertape/cell.wide"], apart := false, laid := [("tickertape/cell.wide", laid_tickertape_cell_wide), ("tickertape/cell.none", laid_tickertape_cell_none)] }
def DiffChainSaid : Prop := diffChainRow.holds Tryd.pinned (OpenSpec.ofChange diffChainSpec)

/-- ITS FALSE NEIGHBOUR: 'it returns false'. Refute it at one input. -/
def diffChainWrong : ChangeSpec := { name := "diffChain", fn := fun _ => fun
  | [d] => { results := [.lit (.bool false)], args := [d] }
  | _ => none }
def DiffChainWrongFalsely : Prop := diffChainRow.holds Tryd.pinned (OpenSpec.ofChange diffChainWrong)

/- THE SECOND FORM. 'bulk': how many values and letters a reading holds, each counted each time it is reached (what is shared counts as often as it is met; a slice's spare places count too). A statement '..UptoSaid' is the law's where the arguments, and the package variables that the reading takes, are together of bulk at most 1048576: NARROWER than '..Said'. Prove '..Said' where nothing that the law and all that it calls make is longer than what came in: it says more and counts as full. Else prove '..UptoSaid'. A law counts once. -/
mutual
def uptoBulk {H : Type} : DataW H → Nat
  | .lit (.string bytes) => bytes.length + 1
  | .lit _ => 1
  | .nil => 1
  | .ptr d => uptoBulk d + 1
  | .slice elems spare => uptoBulkAll elems + uptoBulkAll spare + 1
  | .agg parts => uptoBulkAll parts + 1
  | .iface _ d => uptoBulk d + 1
  | .map entries => uptoBulkEntries entries + 1
  | .held _ => 1
def uptoBulkAll {H : Type} : List (DataW H) → Nat
  | [] => 0
  | d :: r => uptoBulk d + uptoBulkAll r
def uptoBulkEntries {H : Type} : List (Lit × DataW H) → Nat
  | [] => 0
  | x :: r => uptoBulkEntry x + uptoBulkEntries r
def uptoBulkEntry {H : Type} : Lit × DataW H → Nat
  | (.string bytes, d) => bytes.length + uptoBulk d + 1
  | (_, d) => uptoBulk d + 1
 end
def uptoSmall : (H : Type) → List (DataW H) → Bool := fun _ ds => decide (uptoBulkAll ds ≤ 1048576)
def OpenSpec.upto (s : _root_.Go.ChangeSpec) : _root_.Go.OpenSpec := { _root_.Go.OpenSpec.ofChange s with cond := some uptoSmall }

/-- 'tiklaw13.KeyReads', WHERE WHAT IT READS IS OF BULK AT MOST 1048576: true; the input reads as it did. -/
def keyReadsUptoRow : OpenClaim := { program := "ytiojhfaeeelfeaadoor", sum := "16e45a5a0acf9f5ec248495bfc97f24966ffa57fb264a3e340eeabafd19435a7", func := "tickertape/tiklaw13.KeyReads", spec := "keyReads", unfollowed := true, recurses := true, named := ["tickertape/cell.none", "tickertape/cell.wide"], apart := false, laid := [("tickertape/cell.wide", laid_tickertape_cell_wide), ("tickertape/cell.none", laid_tickertape_cell_none)], narrowed := true }
def KeyReadsUptoSaid : Prop := keyReadsUptoRow.holds Tryd.pinned (OpenSpec.upto keyReadsSpec)

/-- 'tiklaw13.KeyBack', WHERE WHAT IT READS IS OF BULK AT MOST 1048576: true; the input reads as it did. -/
def keyBackUptoRow : OpenClaim := { program := "ytiojhfaeeelfeaadoor", sum := "16e45a5a0acf9f5ec248495bfc97f24966ffa57fb264a3e340eeabafd19435a7", func := "tickertape/tiklaw13.KeyBack", spec := "keyBack", unfollowed := true, recurses := true, named := ["tickertape/cell.none", "tickertape/cell.wide"], apart := false, laid := [("tickertape/cell.wide", laid_tickertape_cell_wide), ("tickertape/cell.none", laid_tickertape_cell_none)], narrowed := true }
def KeyBackUptoSaid : Prop := keyBackUptoRow.holds Tryd.pinned (OpenSpec.upto keyBackSpec)

/-- 'tiklaw14.DiffBack', WHERE WHAT IT READS IS OF BULK AT MOST 1048576: true; the input reads as it did. -/
def diffBackUptoRow : OpenClaim := { program := "ytiojhfaeeelfeaadoor", sum := "16e45a5a0acf9f5ec248495bfc97f24966ffa57fb264a3e340eeabafd19435a7", func := "tickertape/tiklaw14.DiffBack", spec := "diffBack", unfollowed := true, recurses := true, named := ["tickertape/cell.none", "tickertape/cell.wide"], apart := false, laid := [("tickertape/cell.wide", laid_tickertape_cell_wide), ("tickertape/cell.none", laid_tickertape_cell_none)], narrowed := true }
def DiffBackUptoSaid : Prop := diffBackUptoRow.holds Tryd.pinned (OpenSpec.upto diffBackSpec)

/-- 'tiklaw14.DiffSmall', WHERE WHAT IT READS IS OF BULK AT MOST 1048576: true; the input reads as it did. -/
def diffSmallUptoRow : OpenClaim := { program := "ytiojhfaeeelfeaadoor", sum := "16e45a5a0acf9f5ec248495bfc97f24966ffa57fb264a3e340eeabafd19435a7", func := "tickertape/tiklaw14.DiffSmall", spec := "diffSmall", unfollowed := true, recurses := true, named := ["tickertape/cell.none", "tickertape/cell.wide"], apart := false, laid := [("tickertape/cell.wide", laid_tickertape_cell_wide), ("tickertape/cell.none", laid_tickertape_cell_none)], narrowed := true }
def DiffSmallUptoSaid : Prop := diffSmallUptoRow.holds Tryd.pinned (OpenSpec.upto diffSmallSpec)

/-- 'tiklaw14.DiffChain', WHERE WHAT IT READS IS OF BULK AT MOST 1048576: true; the input reads as it did. -/
def diffChainUptoRow : OpenClaim := { program := "ytiojhfaeeelfeaadoor", sum := "16e45a5a0acf9f5ec248495bfc97f24966ffa57fb264a3e340eeabafd19435a7", func := "tickertape/tiklaw14.DiffChain", spec := "diffChain", unfollowed := true, recurses := true, named := ["tickertape/cell.none", "tickertape/cell.wide"], apart := false, laid := [("tickertape/cell.wide", laid_tickertape_cell_wide), ("tickertape/cell.none", laid_tickertape_cell_none)], narrowed := true }
def DiffChainUptoSaid : Prop := diffChainUptoRow.holds Tryd.pinned (OpenSpec.upto diffChainSpec)

end Rows
end Go.Proofs.YtiojhfaeeelfeaaDoor
