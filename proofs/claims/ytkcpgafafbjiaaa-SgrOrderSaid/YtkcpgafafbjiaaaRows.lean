/-
  No cell of these rows narrows 'for every input' (looked for: loops, veiled, ifaces, maps, wideKeys, modest, calm, conditions, laid).
  DERIVED. THE GIVEN ROWS OF THIS SEAT. 3 by the template 'for every input the law returns true; each argument reads behind the call as it read before'; 0 by the template 'total and deterministic' (their statements: YtkcpgafafbjiaaaTotals.lean).
  GIVEN WITH THE SEED: the statements are not yours to turn. If you find one false, say at which input.
  Laid BY PROGRAM, IN A SANDBOX (cutbox-rows.mjs): the forced cells as the released guide's own fill.sh prints them over the translation 1586481b8cf7a0bd… (all of the seat's roots in one cut). By AI agents, Wed Nov 11 2026. No macro, syntax, notation, axiom, sorry.
-/
import Derived.Test.YtkcpgafafbjiaaaChecked
import GoSem.Claim
import GoSem.ClaimJoined
import GoSem.ClaimMapViews
import Derived.JoinedTies
import Derived.KernelRfl
namespace Go.Proofs.Ytkcpgafafbjiaaa
/- THE CELL 'sum', in the pinned program and in every row, IS THE sha256 OF THE DUMP (.gsa) THAT YtkcpgafafbjiaaaProg.lean LOADS. Nothing in Lean hashes anything: it is a label: what it is worth is what the hold of that sum in a sandbox is worth. -/
noncomputable def Try.pinned : Pinned := { name := "ytkcpgafafbjiaaa", sum := "1586481b8cf7a0bd4fa5d12dc3afcda6162bab84e3a9b5aac46391ee59a0e569", checked := Try.checked }
namespace Rows
def none {H : Type} : Left H := { results := [], args := [] }

/-- 'tiklaw9.SgrBack': WHATEVER THE INPUT: true; the input reads as it did. -/
def sgrBackSpec : ChangeSpec := { name := "sgrBack", fn := fun _ => fun
  | [d1, d2, d3] => { results := [.lit (.bool true)], args := [d1, d2, d3] }
  | _ => none }
def sgrBackRow : OpenClaim := { program := "ytkcpgafafbjiaaa", sum := "1586481b8cf7a0bd4fa5d12dc3afcda6162bab84e3a9b5aac46391ee59a0e569", func := "tickertape/tiklaw9.SgrBack", spec := "sgrBack", apart := false }
def SgrBackSaid : Prop := sgrBackRow.holds Try.pinned (OpenSpec.ofChange sgrBackSpec)

/-- ITS FALSE NEIGHBOUR: 'it returns false'. Refute it at one input. -/
def sgrBackWrong : ChangeSpec := { name := "sgrBack", fn := fun _ => fun
  | [d1, d2, d3] => { results := [.lit (.bool false)], args := [d1, d2, d3] }
  | _ => none }
def SgrBackWrongFalsely : Prop := sgrBackRow.holds Try.pinned (OpenSpec.ofChange sgrBackWrong)

/-- 'tiklaw9.SgrApart': WHATEVER THE INPUT: true; the input reads as it did. -/
def sgrApartSpec : ChangeSpec := { name := "sgrApart", fn := fun _ => fun
  | [d1, d2] => { results := [.lit (.bool true)], args := [d1, d2] }
  | _ => none }
def sgrApartRow : OpenClaim := { program := "ytkcpgafafbjiaaa", sum := "1586481b8cf7a0bd4fa5d12dc3afcda6162bab84e3a9b5aac46391ee59a0e569", func := "tickertape/tiklaw9.SgrApart", spec := "sgrApart", apart := false }
def SgrApartSaid : Prop := sgrApartRow.holds Try.pinned (OpenSpec.ofChange sgrApartSpec)

/-- ITS FALSE NEIGHBOUR: 'it returns false'. Refute it at one input. -/
def sgrApartWrong : ChangeSpec := { name := "sgrApart", fn := fun _ => fun
  | [d1, d2] => { results := [.lit (.bool false)], args := [d1, d2] }
  | _ => none }
def SgrApartWrongFalsely : Prop := sgrApartRow.holds Try.pinned (OpenSpec.ofChange sgrApartWrong)

/-- 'tiklaw9.SgrOrder': WHATEVER THE INPUT: true; the input reads as it did. -/
def sgrOrderSpec : ChangeSpec := { name := "sgrOrder", fn := fun _ => fun
  | [d1, d2, d3, d4] => { results := [.lit (.bool true)], args := [d1, d2, d3, d4] }
  | _ => none }
def sgrOrderRow : OpenClaim := { program := "ytkcpgafafbjiaaa", sum := "1586481b8cf7a0bd4fa5d12dc3afcda6162bab84e3a9b5aac46391ee59a0e569", func := "tickertape/tiklaw9.SgrOrder", spec := "sgrOrder", apart := false }
def SgrOrderSaid : Prop := sgrOrderRow.holds Try.pinned (OpenSpec.ofChange sgrOrderSpec)

/-- ITS FALSE NEIGHBOUR: 'it returns false'. Refute it at one input. -/
def sgrOrderWrong : ChangeSpec := { name := "sgrOrder", fn := fun _ => fun
  | [d1, d2, d3, d4] => { results := [.lit (.bool false)], args := [d1, d2, d3, d4] }
  | _ => none }
def SgrOrderWrongFalsely : Prop := sgrOrderRow.holds Try.pinned (OpenSpec.ofChange sgrOrderWrong)

/- THE SECOND FORM. 'bulk': how many values and letters a reading holds, each counted each time it is reached (what is shared counts as often as it is met; a slice's spare places count too). A statement '..UptoSaid' is the law's where the arguments, and the package variables that the reading takes, are together of bulk at most 1048576: NARROWER than '..Said'. Prove '..Said' where nothing that the law and all that it calls make is longer than what came in: it says more and counts as full. Else prove '..UptoSaid'. A law counts once. -/
mutual
def uptoBulk {H : Type} : DataW H → Nat
  | .lit (.string bytes) => bytes.length + 1
  | .lit _ => 1
  | .nil => 1
  | .ptr d => uptoBulk d + 1
  | .slice elems spare => uptoBulkAll elems + uptoBulkAll spare + 1
  | .agg parts => uptoBulkAll parts + 1
  | .iface _ d => uptoBulk d + 1
  | .map entries => uptoBulkEntries entries + 1
  | .held _ => 1
def uptoBulkAll {H : Type} : List (DataW H) → Nat
  | [] => 0
  | d :: r => uptoBulk d + uptoBulkAll r
def uptoBulkEntries {H : Type} : List (Lit × DataW H) → Nat
  | [] => 0
  | x :: r => uptoBulkEntry x + uptoBulkEntries r
def uptoBulkEntry {H : Type} : Lit × DataW H → Nat
  | (.string bytes, d) => bytes.length + uptoBulk d + 1
  | (_, d) => uptoBulk d + 1
 end
def uptoSmall : (H : Type) → List (DataW H) → Bool := fun _ ds => decide (uptoBulkAll ds ≤ 1048576)
def OpenSpec.upto (s : _root_.Go.ChangeSpec) : _root_.Go.OpenSpec := { _root_.Go.OpenSpec.ofChange s with cond := some uptoSmall }

/-- 'tiklaw9.SgrBack', WHERE WHAT IT READS IS OF BULK AT MOST 1048576: true; the input reads as it did. -/
def sgrBackUptoRow : OpenClaim := { program := "ytkcpgafafbjiaaa", sum := "1586481b8cf7a0bd4fa5d12dc3afcda6162bab84e3a9b5aac46391ee59a0e569", func := "tickertape/tiklaw9.SgrBack", spec := "sgrBack", apart := false, narrowed := true }
def SgrBackUptoSaid : Prop := sgrBackUptoRow.holds Try.pinned (OpenSpec.upto sgrBackSpec)

/-- 'tiklaw9.SgrApart', WHERE WHAT IT READS IS OF BULK AT MOST 1048576: true; the input reads as it did. -/
def sgrApartUptoRow : OpenClaim := { program := "ytkcpgafafbjiaaa", sum := "1586481b8cf7a0bd4fa5d12dc3afcda6162bab84e3a9b5aac46391ee59a0e569", func := "tickertape/tiklaw9.SgrApart", spec := "sgrApart", apart := false, narrowed := true }
def SgrApartUptoSaid : Prop := sgrApartUptoRow.holds Try.pinned (OpenSpec.upto sgrApartSpec)

/-- 'tiklaw9.SgrOrder', WHERE WHAT IT READS IS OF BULK AT MOST 1048576: true; the input reads as it did. -/
def sgrOrderUptoRow : OpenClaim := { program := "ytkcpgafafbjiaaa", sum := "1586481b8cf7a0bd4fa5d12dc3afcda6162bab84e3a9b5aac46391ee59a0e569", func := "tickertape/tiklaw9.SgrOrder", spec := "sgrOrder", apart := false, narrowed := true }
def SgrOrderUptoSaid : Prop := sgrOrderUptoRow.holds Try.pinned (OpenSpec.upto sgrOrderSpec)

end Rows
end Go.Proofs.Ytkcpgafafbjiaaa
