
/-
  Chapter 25's examples.
-/
import Derived.Test.YtcgdmidjejmjhaaDoorWin
namespace Go.Proofs.YtcgdmidjejmjhaaDoor
open Go.RowKit
set_option linter.unusedVariables false
set_option linter.unusedSimpArgs false

theorem By.litM (w : World) (L : List Int) (b n : Nat) (fr : Nat × Nat) (hb : b = w.heap.size) (hn : n = L.length) (hL : ∀ x ∈ L, 0 ≤ x ∧ x ≤ 255) : By (w.alloc (.cells (bytesV L).toArray 5 fr)) (.slice (some ⟨b, 0, none⟩) n n) L :=
  ⟨by subst hn; exact Rd.litM w L b _ fr hb rfl, nilOk_some _ _ _, hL⟩
def pk5 : Pk := ⟨1, 0, 7, [5]⟩
theorem pk5_may : pk5.May := by decide
set_option maxRecDepth 100000 in
theorem seal5 : openL [108] (sealL [107] pk5) = (Pk.z, 15) := by decide +kernel
attribute [local go_sem] conv_const
end Go.Proofs.YtcgdmidjejmjhaaDoor
