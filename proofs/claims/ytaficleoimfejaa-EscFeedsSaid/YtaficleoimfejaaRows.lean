/-
  No cell of these rows narrows 'for every input' (looked for: loops, veiled, ifaces, maps, wideKeys, modest, calm, conditions, laid).
  DERIVED. THE GIVEN ROWS OF THIS SEAT. 4 by the template 'for every input the law returns true; each argument reads behind the call as it read before'; 0 by the template 'total and deterministic' (their statements: YtaficleoimfejaaTotals.lean).
  GIVEN WITH THE SEED: the statements are not yours to turn. If you find one false, say at which input.
  Laid BY PROGRAM, IN A SANDBOX (cutbox-rows.mjs): the forced cells as the released guide's own fill.sh prints them over the translation 0affa1209b65c8b5… (all of the seat's roots in one cut). By AI agents, Wed Nov 11 2026. No macro, syntax, notation, axiom, sorry.
-/
import Derived.Test.YtaficleoimfejaaChecked
import GoSem.Claim
import GoSem.ClaimJoined
import GoSem.ClaimMapViews
import Derived.JoinedTies
import Derived.KernelRfl
namespace Go.Proofs.Ytaficleoimfejaa
/- THE CELL 'sum', in the pinned program and in every row, IS THE sha256 OF THE DUMP (.gsa) THAT YtaficleoimfejaaProg.lean LOADS. Nothing in Lean hashes anything: it is a label: what it is worth is what the hold of that sum in a sandbox is worth. -/
noncomputable def Try.pinned : Pinned := { name := "ytaficleoimfejaa", sum := "0affa1209b65c8b506be65f643f6e3f982dc84339ca34618718283a152d2b974", checked := Try.checked }
namespace Rows
def none {H : Type} : Left H := { results := [], args := [] }

/-- 'tiklaw8.EscFeeds': WHATEVER THE INPUT: true; the input reads as it did. -/
def escFeedsSpec : ChangeSpec := { name := "escFeeds", fn := fun _ => fun
  | [d1, d2] => { results := [.lit (.bool true)], args := [d1, d2] }
  | _ => none }
def escFeedsRow : OpenClaim := { program := "ytaficleoimfejaa", sum := "0affa1209b65c8b506be65f643f6e3f982dc84339ca34618718283a152d2b974", func := "tickertape/tiklaw8.EscFeeds", spec := "escFeeds", apart := false }
def EscFeedsSaid : Prop := escFeedsRow.holds Try.pinned (OpenSpec.ofChange escFeedsSpec)

/-- ITS FALSE NEIGHBOUR: 'it returns false'. Refute it at one input. -/
def escFeedsWrong : ChangeSpec := { name := "escFeeds", fn := fun _ => fun
  | [d1, d2] => { results := [.lit (.bool false)], args := [d1, d2] }
  | _ => none }
def EscFeedsWrongFalsely : Prop := escFeedsRow.holds Try.pinned (OpenSpec.ofChange escFeedsWrong)

/-- 'tiklaw8.EscControls': WHATEVER THE INPUT: true; the input reads as it did. -/
def escControlsSpec : ChangeSpec := { name := "escControls", fn := fun _ => fun
  | [d1, d2, d3, d4] => { results := [.lit (.bool true)], args := [d1, d2, d3, d4] }
  | _ => none }
def escControlsRow : OpenClaim := { program := "ytaficleoimfejaa", sum := "0affa1209b65c8b506be65f643f6e3f982dc84339ca34618718283a152d2b974", func := "tickertape/tiklaw8.EscControls", spec := "escControls", recurses := true, apart := false }
def EscControlsSaid : Prop := escControlsRow.holds Try.pinned (OpenSpec.ofChange escControlsSpec)

/-- ITS FALSE NEIGHBOUR: 'it returns false'. Refute it at one input. -/
def escControlsWrong : ChangeSpec := { name := "escControls", fn := fun _ => fun
  | [d1, d2, d3, d4] => { results := [.lit (.bool false)], args := [d1, d2, d3, d4] }
  | _ => none }
def EscControlsWrongFalsely : Prop := escControlsRow.holds Try.pinned (OpenSpec.ofChange escControlsWrong)

/-- 'tiklaw8.EscPlain': WHATEVER THE INPUT: true; the input reads as it did. -/
def escPlainSpec : ChangeSpec := { name := "escPlain", fn := fun _ => fun
  | [d1, d2, d3] => { results := [.lit (.bool true)], args := [d1, d2, d3] }
  | _ => none }
def escPlainRow : OpenClaim := { program := "ytaficleoimfejaa", sum := "0affa1209b65c8b506be65f643f6e3f982dc84339ca34618718283a152d2b974", func := "tickertape/tiklaw8.EscPlain", spec := "escPlain", apart := false }
def EscPlainSaid : Prop := escPlainRow.holds Try.pinned (OpenSpec.ofChange escPlainSpec)

/-- ITS FALSE NEIGHBOUR: 'it returns false'. Refute it at one input. -/
def escPlainWrong : ChangeSpec := { name := "escPlain", fn := fun _ => fun
  | [d1, d2, d3] => { results := [.lit (.bool false)], args := [d1, d2, d3] }
  | _ => none }
def EscPlainWrongFalsely : Prop := escPlainRow.holds Try.pinned (OpenSpec.ofChange escPlainWrong)

/-- 'tiklaw8.EscPieces': WHATEVER THE INPUT: true; the input reads as it did. -/
def escPiecesSpec : ChangeSpec := { name := "escPieces", fn := fun _ => fun
  | [d] => { results := [.lit (.bool true)], args := [d] }
  | _ => none }
def escPiecesRow : OpenClaim := { program := "ytaficleoimfejaa", sum := "0affa1209b65c8b506be65f643f6e3f982dc84339ca34618718283a152d2b974", func := "tickertape/tiklaw8.EscPieces", spec := "escPieces", unfollowed := true, recurses := true, apart := false }
def EscPiecesSaid : Prop := escPiecesRow.holds Try.pinned (OpenSpec.ofChange escPiecesSpec)

/-- ITS FALSE NEIGHBOUR: 'it returns false'. Refute it at one input. -/
def escPiecesWrong : ChangeSpec := { name := "escPieces", fn := fun _ => fun
  | [d] => { results := [.lit (.bool false)], args := [d] }
  | _ => none }
def EscPiecesWrongFalsely : Prop := escPiecesRow.holds Try.pinned (OpenSpec.ofChange escPiecesWrong)

/- THE SECOND FORM. 'bulk': how many values and letters a reading holds, each counted each time it is reached (what is shared counts as often as it is met; a slice's spare places count too). A statement '..UptoSaid' is the law's where the arguments, and the package variables that the reading takes, are together of bulk at most 1048576: NARROWER than '..Said'. Prove '..Said' where nothing that the law and all that it calls make is longer than what came in: it says more and counts as full. Else prove '..UptoSaid'. A law counts once. -/
mutual
def uptoBulk {H : Type} : DataW H → Nat
  | .lit (.string bytes) => bytes.length + 1
  | .lit _ => 1
  | .nil => 1
  | .ptr d => uptoBulk d + 1
  | .slice elems spare => uptoBulkAll elems + uptoBulkAll spare + 1
  | .agg parts => uptoBulkAll parts + 1
  | .iface _ d => uptoBulk d + 1
  | .map entries => uptoBulkEntries entries + 1
  | .held _ => 1
def uptoBulkAll {H : Type} : List (DataW H) → Nat
  | [] => 0
  | d :: r => uptoBulk d + uptoBulkAll r
def uptoBulkEntries {H : Type} : List (Lit × DataW H) → Nat
  | [] => 0
  | x :: r => uptoBulkEntry x + uptoBulkEntries r
def uptoBulkEntry {H : Type} : Lit × DataW H → Nat
  | (.string bytes, d) => bytes.length + uptoBulk d + 1
  | (_, d) => uptoBulk d + 1
 end
def uptoSmall : (H : Type) → List (DataW H) → Bool := fun _ ds => decide (uptoBulkAll ds ≤ 1048576)
def OpenSpec.upto (s : _root_.Go.ChangeSpec) : _root_.Go.OpenSpec := { _root_.Go.OpenSpec.ofChange s with cond := some uptoSmall }

/-- 'tiklaw8.EscFeeds', WHERE WHAT IT READS IS OF BULK AT MOST 1048576: true; the input reads as it did. -/
def escFeedsUptoRow : OpenClaim := { program := "ytaficleoimfejaa", sum := "0affa1209b65c8b506be65f643f6e3f982dc84339ca34618718283a152d2b974", func := "tickertape/tiklaw8.EscFeeds", spec := "escFeeds", apart := false, narrowed := true }
def EscFeedsUptoSaid : Prop := escFeedsUptoRow.holds Try.pinned (OpenSpec.upto escFeedsSpec)

/-- 'tiklaw8.EscControls', WHERE WHAT IT READS IS OF BULK AT MOST 1048576: true; the input reads as it did. -/
def escControlsUptoRow : OpenClaim := { program := "ytaficleoimfejaa", sum := "0affa1209b65c8b506be65f643f6e3f982dc84339ca34618718283a152d2b974", func := "tickertape/tiklaw8.EscControls", spec := "escControls", recurses := true, apart := false, narrowed := true }
def EscControlsUptoSaid : Prop := escControlsUptoRow.holds Try.pinned (OpenSpec.upto escControlsSpec)

/-- 'tiklaw8.EscPlain', WHERE WHAT IT READS IS OF BULK AT MOST 1048576: true; the input reads as it did. -/
def escPlainUptoRow : OpenClaim := { program := "ytaficleoimfejaa", sum := "0affa1209b65c8b506be65f643f6e3f982dc84339ca34618718283a152d2b974", func := "tickertape/tiklaw8.EscPlain", spec := "escPlain", apart := false, narrowed := true }
def EscPlainUptoSaid : Prop := escPlainUptoRow.holds Try.pinned (OpenSpec.upto escPlainSpec)

/-- 'tiklaw8.EscPieces', WHERE WHAT IT READS IS OF BULK AT MOST 1048576: true; the input reads as it did. -/
def escPiecesUptoRow : OpenClaim := { program := "ytaficleoimfejaa", sum := "0affa1209b65c8b506be65f643f6e3f982dc84339ca34618718283a152d2b974", func := "tickertape/tiklaw8.EscPieces", spec := "escPieces", unfollowed := true, recurses := true, apart := false, narrowed := true }
def EscPiecesUptoSaid : Prop := escPiecesUptoRow.holds Try.pinned (OpenSpec.upto escPiecesSpec)

end Rows
end Go.Proofs.Ytaficleoimfejaa
