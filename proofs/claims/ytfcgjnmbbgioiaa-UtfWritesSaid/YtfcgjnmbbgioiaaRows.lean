/-
  No cell of these rows narrows 'for every input' (looked for: loops, veiled, ifaces, maps, wideKeys, modest, calm, conditions, laid).
  DERIVED. THE GIVEN ROWS OF THIS SEAT. 6 by the template 'for every input the law returns true; each argument reads behind the call as it read before'; 0 by the template 'total and deterministic' (their statements: YtfcgjnmbbgioiaaTotals.lean).
  GIVEN WITH THE SEED: the statements are not yours to turn. If you find one false, say at which input.
  Laid BY PROGRAM, IN A SANDBOX (cutbox-rows.mjs): the forced cells as the released guide's own fill.sh prints them over the translation ef7190e9f1968683… (all of the seat's roots in one cut). By AI agents, Wed Nov 11 2026. No macro, syntax, notation, axiom, sorry.
-/
import Derived.Test.YtfcgjnmbbgioiaaChecked
import GoSem.Claim
import GoSem.ClaimJoined
import GoSem.ClaimMapViews
import Derived.JoinedTies
import Derived.KernelRfl
namespace Go.Proofs.Ytfcgjnmbbgioiaa
/- THE CELL 'sum', in the pinned program and in every row, IS THE sha256 OF THE DUMP (.gsa) THAT YtfcgjnmbbgioiaaProg.lean LOADS. Nothing in Lean hashes anything: it is a label: what it is worth is what the hold of that sum in a sandbox is worth. -/
noncomputable def Try.pinned : Pinned := { name := "ytfcgjnmbbgioiaa", sum := "ef7190e9f1968683be935e58111066456c27e9e56b3ce3293a5c442860dd6087", checked := Try.checked }
namespace Rows
def none {H : Type} : Left H := { results := [], args := [] }

/-- 'tiklaw3.UtfWrites': WHATEVER THE INPUT: true; the input reads as it did. -/
def utfWritesSpec : ChangeSpec := { name := "utfWrites", fn := fun _ => fun
  | [d1, d2] => { results := [.lit (.bool true)], args := [d1, d2] }
  | _ => none }
def utfWritesRow : OpenClaim := { program := "ytfcgjnmbbgioiaa", sum := "ef7190e9f1968683be935e58111066456c27e9e56b3ce3293a5c442860dd6087", func := "tickertape/tiklaw3.UtfWrites", spec := "utfWrites", recurses := true, apart := false }
def UtfWritesSaid : Prop := utfWritesRow.holds Try.pinned (OpenSpec.ofChange utfWritesSpec)

/-- ITS FALSE NEIGHBOUR: 'it returns false'. Refute it at one input. -/
def utfWritesWrong : ChangeSpec := { name := "utfWrites", fn := fun _ => fun
  | [d1, d2] => { results := [.lit (.bool false)], args := [d1, d2] }
  | _ => none }
def UtfWritesWrongFalsely : Prop := utfWritesRow.holds Try.pinned (OpenSpec.ofChange utfWritesWrong)

/-- 'tiklaw3.UtfPieces': WHATEVER THE INPUT: true; the input reads as it did. -/
def utfPiecesSpec : ChangeSpec := { name := "utfPieces", fn := fun _ => fun
  | [d1, d2] => { results := [.lit (.bool true)], args := [d1, d2] }
  | _ => none }
def utfPiecesRow : OpenClaim := { program := "ytfcgjnmbbgioiaa", sum := "ef7190e9f1968683be935e58111066456c27e9e56b3ce3293a5c442860dd6087", func := "tickertape/tiklaw3.UtfPieces", spec := "utfPieces", recurses := true, apart := false }
def UtfPiecesSaid : Prop := utfPiecesRow.holds Try.pinned (OpenSpec.ofChange utfPiecesSpec)

/-- ITS FALSE NEIGHBOUR: 'it returns false'. Refute it at one input. -/
def utfPiecesWrong : ChangeSpec := { name := "utfPieces", fn := fun _ => fun
  | [d1, d2] => { results := [.lit (.bool false)], args := [d1, d2] }
  | _ => none }
def UtfPiecesWrongFalsely : Prop := utfPiecesRow.holds Try.pinned (OpenSpec.ofChange utfPiecesWrong)

/-- 'tiklaw3.UtfEncodes': WHATEVER THE INPUT: true; the input reads as it did. -/
def utfEncodesSpec : ChangeSpec := { name := "utfEncodes", fn := fun _ => fun
  | [d] => { results := [.lit (.bool true)], args := [d] }
  | _ => none }
def utfEncodesRow : OpenClaim := { program := "ytfcgjnmbbgioiaa", sum := "ef7190e9f1968683be935e58111066456c27e9e56b3ce3293a5c442860dd6087", func := "tickertape/tiklaw3.UtfEncodes", spec := "utfEncodes", recurses := true, apart := false }
def UtfEncodesSaid : Prop := utfEncodesRow.holds Try.pinned (OpenSpec.ofChange utfEncodesSpec)

/-- ITS FALSE NEIGHBOUR: 'it returns false'. Refute it at one input. -/
def utfEncodesWrong : ChangeSpec := { name := "utfEncodes", fn := fun _ => fun
  | [d] => { results := [.lit (.bool false)], args := [d] }
  | _ => none }
def UtfEncodesWrongFalsely : Prop := utfEncodesRow.holds Try.pinned (OpenSpec.ofChange utfEncodesWrong)

/-- 'tiklaw3.UtfBack': WHATEVER THE INPUT: true; the input reads as it did. -/
def utfBackSpec : ChangeSpec := { name := "utfBack", fn := fun _ => fun
  | [d] => { results := [.lit (.bool true)], args := [d] }
  | _ => none }
def utfBackRow : OpenClaim := { program := "ytfcgjnmbbgioiaa", sum := "ef7190e9f1968683be935e58111066456c27e9e56b3ce3293a5c442860dd6087", func := "tickertape/tiklaw3.UtfBack", spec := "utfBack", recurses := true, apart := false }
def UtfBackSaid : Prop := utfBackRow.holds Try.pinned (OpenSpec.ofChange utfBackSpec)

/-- ITS FALSE NEIGHBOUR: 'it returns false'. Refute it at one input. -/
def utfBackWrong : ChangeSpec := { name := "utfBack", fn := fun _ => fun
  | [d] => { results := [.lit (.bool false)], args := [d] }
  | _ => none }
def UtfBackWrongFalsely : Prop := utfBackRow.holds Try.pinned (OpenSpec.ofChange utfBackWrong)

/-- 'tiklaw3.UtfSigns': WHATEVER THE INPUT: true; the input reads as it did. -/
def utfSignsSpec : ChangeSpec := { name := "utfSigns", fn := fun _ => fun
  | [d1, d2] => { results := [.lit (.bool true)], args := [d1, d2] }
  | _ => none }
def utfSignsRow : OpenClaim := { program := "ytfcgjnmbbgioiaa", sum := "ef7190e9f1968683be935e58111066456c27e9e56b3ce3293a5c442860dd6087", func := "tickertape/tiklaw3.UtfSigns", spec := "utfSigns", recurses := true, apart := false }
def UtfSignsSaid : Prop := utfSignsRow.holds Try.pinned (OpenSpec.ofChange utfSignsSpec)

/-- ITS FALSE NEIGHBOUR: 'it returns false'. Refute it at one input. -/
def utfSignsWrong : ChangeSpec := { name := "utfSigns", fn := fun _ => fun
  | [d1, d2] => { results := [.lit (.bool false)], args := [d1, d2] }
  | _ => none }
def UtfSignsWrongFalsely : Prop := utfSignsRow.holds Try.pinned (OpenSpec.ofChange utfSignsWrong)

/-- 'tiklaw3.UtfBroken': WHATEVER THE INPUT: true; the input reads as it did. -/
def utfBrokenSpec : ChangeSpec := { name := "utfBroken", fn := fun _ => fun
  | [d1, d2, d3] => { results := [.lit (.bool true)], args := [d1, d2, d3] }
  | _ => none }
def utfBrokenRow : OpenClaim := { program := "ytfcgjnmbbgioiaa", sum := "ef7190e9f1968683be935e58111066456c27e9e56b3ce3293a5c442860dd6087", func := "tickertape/tiklaw3.UtfBroken", spec := "utfBroken", recurses := true, apart := false }
def UtfBrokenSaid : Prop := utfBrokenRow.holds Try.pinned (OpenSpec.ofChange utfBrokenSpec)

/-- ITS FALSE NEIGHBOUR: 'it returns false'. Refute it at one input. -/
def utfBrokenWrong : ChangeSpec := { name := "utfBroken", fn := fun _ => fun
  | [d1, d2, d3] => { results := [.lit (.bool false)], args := [d1, d2, d3] }
  | _ => none }
def UtfBrokenWrongFalsely : Prop := utfBrokenRow.holds Try.pinned (OpenSpec.ofChange utfBrokenWrong)

/- THE SECOND FORM. 'bulk': how many values and letters a reading holds, each counted each time it is reached (what is shared counts as often as it is met; a slice's spare places count too). A statement '..UptoSaid' is the law's where the arguments, and the package variables that the reading takes, are together of bulk at most 1048576: NARROWER than '..Said'. Prove '..Said' where nothing that the law and all that it calls make is longer than what came in: it says more and counts as full. Else prove '..UptoSaid'. A law counts once. -/
mutual
def uptoBulk {H : Type} : DataW H → Nat
  | .lit (.string bytes) => bytes.length + 1
  | .lit _ => 1
  | .nil => 1
  | .ptr d => uptoBulk d + 1
  | .slice elems spare => uptoBulkAll elems + uptoBulkAll spare + 1
  | .agg parts => uptoBulkAll parts + 1
  | .iface _ d => uptoBulk d + 1
  | .map entries => uptoBulkEntries entries + 1
  | .held _ => 1
def uptoBulkAll {H : Type} : List (DataW H) → Nat
  | [] => 0
  | d :: r => uptoBulk d + uptoBulkAll r
def uptoBulkEntries {H : Type} : List (Lit × DataW H) → Nat
  | [] => 0
  | x :: r => uptoBulkEntry x + uptoBulkEntries r
def uptoBulkEntry {H : Type} : Lit × DataW H → Nat
  | (.string bytes, d) => bytes.length + uptoBulk d + 1
  | (_, d) => uptoBulk d + 1
 end
def uptoSmall : (H : Type) → List (DataW H) → Bool := fun _ ds => decide (uptoBulkAll ds ≤ 1048576)
def OpenSpec.upto (s : _root_.Go.ChangeSpec) : _root_.Go.OpenSpec := { _root_.Go.OpenSpec.ofChange s with cond := some uptoSmall }

/-- 'tiklaw3.UtfWrites', WHERE WHAT IT READS IS OF BULK AT MOST 1048576: true; the input reads as it did. -/
def utfWritesUptoRow : OpenClaim := { program := "ytfcgjnmbbgioiaa", sum := "ef7190e9f1968683be935e58111066456c27e9e56b3ce3293a5c442860dd6087", func := "tickertape/tiklaw3.UtfWrites", spec := "utfWrites", recurses := true, apart := false, narrowed := true }
def UtfWritesUptoSaid : Prop := utfWritesUptoRow.holds Try.pinned (OpenSpec.upto utfWritesSpec)

/-- 'tiklaw3.UtfPieces', WHERE WHAT IT READS IS OF BULK AT MOST 1048576: true; the input reads as it did. -/
def utfPiecesUptoRow : OpenClaim := { program := "ytfcgjnmbbgioiaa", sum := "ef7190e9f1968683be935e58111066456c27e9e56b3ce3293a5c442860dd6087", func := "tickertape/tiklaw3.UtfPieces", spec := "utfPieces", recurses := true, apart := false, narrowed := true }
def UtfPiecesUptoSaid : Prop := utfPiecesUptoRow.holds Try.pinned (OpenSpec.upto utfPiecesSpec)

/-- 'tiklaw3.UtfEncodes', WHERE WHAT IT READS IS OF BULK AT MOST 1048576: true; the input reads as it did. -/
def utfEncodesUptoRow : OpenClaim := { program := "ytfcgjnmbbgioiaa", sum := "ef7190e9f1968683be935e58111066456c27e9e56b3ce3293a5c442860dd6087", func := "tickertape/tiklaw3.UtfEncodes", spec := "utfEncodes", recurses := true, apart := false, narrowed := true }
def UtfEncodesUptoSaid : Prop := utfEncodesUptoRow.holds Try.pinned (OpenSpec.upto utfEncodesSpec)

/-- 'tiklaw3.UtfBack', WHERE WHAT IT READS IS OF BULK AT MOST 1048576: true; the input reads as it did. -/
def utfBackUptoRow : OpenClaim := { program := "ytfcgjnmbbgioiaa", sum := "ef7190e9f1968683be935e58111066456c27e9e56b3ce3293a5c442860dd6087", func := "tickertape/tiklaw3.UtfBack", spec := "utfBack", recurses := true, apart := false, narrowed := true }
def UtfBackUptoSaid : Prop := utfBackUptoRow.holds Try.pinned (OpenSpec.upto utfBackSpec)

/-- 'tiklaw3.UtfSigns', WHERE WHAT IT READS IS OF BULK AT MOST 1048576: true; the input reads as it did. -/
def utfSignsUptoRow : OpenClaim := { program := "ytfcgjnmbbgioiaa", sum := "ef7190e9f1968683be935e58111066456c27e9e56b3ce3293a5c442860dd6087", func := "tickertape/tiklaw3.UtfSigns", spec := "utfSigns", recurses := true, apart := false, narrowed := true }
def UtfSignsUptoSaid : Prop := utfSignsUptoRow.holds Try.pinned (OpenSpec.upto utfSignsSpec)

/-- 'tiklaw3.UtfBroken', WHERE WHAT IT READS IS OF BULK AT MOST 1048576: true; the input reads as it did. -/
def utfBrokenUptoRow : OpenClaim := { program := "ytfcgjnmbbgioiaa", sum := "ef7190e9f1968683be935e58111066456c27e9e56b3ce3293a5c442860dd6087", func := "tickertape/tiklaw3.UtfBroken", spec := "utfBroken", recurses := true, apart := false, narrowed := true }
def UtfBrokenUptoSaid : Prop := utfBrokenUptoRow.holds Try.pinned (OpenSpec.upto utfBrokenSpec)

end Rows
end Go.Proofs.Ytfcgjnmbbgioiaa
