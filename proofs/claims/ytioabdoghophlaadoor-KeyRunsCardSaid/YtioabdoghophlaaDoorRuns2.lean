
/-
  Cells run by run: the document's Cells.
-/
import Derived.Test.YtioabdoghophlaaDoorRuns
namespace Go.Proofs.YtioabdoghophlaaDoor
open Go.RowKit
set_option linter.unusedVariables false
set_option linter.unusedSimpArgs false

theorem Rd.made2 (w : World) (o : Obj) (t : TypeId) (cs : Array Value) {size n c : Nat} (hs : cs.size = n * size) (hc : n ≤ c) : Rd ((w.alloc o).alloc (.cells cs t)) size (.slice (some ⟨w.heap.size + 1, 0, none⟩) n c) n cs.toList := by
  have h := Rd.made (w.alloc o) t cs hs hc
  have e : (w.alloc o).heap.size = w.heap.size + 1 := Array.size_push _
  rwa [e] at h
attribute [local go_sem ↓] ce_guard run_eql_ce run_neq_ce
end Go.Proofs.YtioabdoghophlaaDoor
