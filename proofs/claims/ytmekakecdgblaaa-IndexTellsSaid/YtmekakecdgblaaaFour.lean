
/-
  A number in four bytes.
-/
import Derived.Test.YtmekakecdgblaaaBx
namespace Go.Proofs.Ytmekakecdgblaaa
open Go.RowKit
set_option linter.unusedVariables false
set_option linter.unusedSimpArgs false

def fourL (x : Int) : List Int := [IntKind.u8.wrap (x / 16777216), IntKind.u8.wrap (x / 65536), IntKind.u8.wrap (x / 256), IntKind.u8.wrap x]
theorem fourL_byte (x : Int) : ∀ z ∈ fourL x, 0 ≤ z ∧ z ≤ 255 := by
  intro z hz
  simp only [fourL, List.mem_cons, List.not_mem_nil, or_false, IntKind.wrap, IntKind.bits, IntKind.signed] at hz
  simp at hz
  omega
theorem four_any (w : World) (x : Int) : Calls Try.prog 19 #[.int .u32 x] w fun e w' => ∃ v, e = .returned v ∧ Bx w w' v (fourL x) := by
  have HF : Hid (Bx w (w.alloc (.cells (bytesV (fourL x)).toArray 5)) (.slice (some ⟨w.heap.size, 0, none⟩) 4 4) (fourL x)) := Lib.hid ⟨Own.lit w 5 (bytesV (fourL x)).toArray (by show 4 ≤ 1000; decide), (Chg.refl w nob).alloc _, fun k hk => by cases hk; exact Nat.le_refl _⟩
  go_enter Try.func19, Try.ntmps19
  go_wp2
  go_ret
  refine ⟨_, rfl, ?_⟩
  have h := HF.out
  simpa [bytesV, fourL, IntKind.wrap, IntKind.bits, IntKind.signed] using h
theorem wfour_any (w : World) (x : Int) : Calls Try.prog 16 #[.int .u32 x] w fun e w' => ∃ v, e = .returned v ∧ Bx w w' v (fourL x) := by
  have HF : Hid (Bx w (w.alloc (.cells (bytesV (fourL x)).toArray 5)) (.slice (some ⟨w.heap.size, 0, none⟩) 4 4) (fourL x)) := Lib.hid ⟨Own.lit w 5 (bytesV (fourL x)).toArray (by show 4 ≤ 1000; decide), (Chg.refl w nob).alloc _, fun k hk => by cases hk; exact Nat.le_refl _⟩
  go_enter Try.func16, Try.ntmps16
  go_wp2
  go_ret
  refine ⟨_, rfl, ?_⟩
  have h := HF.out
  simpa [bytesV, fourL, IntKind.wrap, IntKind.bits, IntKind.signed] using h
end Go.Proofs.Ytmekakecdgblaaa
