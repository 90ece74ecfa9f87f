
/-
  Bits of signs: masks and joins as sums.
-/
import Derived.Test.YtioabdoghophlaaDoorK
import Derived.Lib.EndianBits
namespace Go.Proofs.YtioabdoghophlaaDoor
set_option linter.unusedVariables false

theorem wraps_i32 (n : Int) (h₀ : 0 ≤ n) (h₁ : n < 2 ^ 31) : IntKind.i32.wrap n = n := by
  simp only [IntKind.wrap, IntKind.bits, IntKind.signed]; simp; omega
theorem wraps_u8 (n : Int) (h₀ : 0 ≤ n) (h₁ : n < 2 ^ 8) : IntKind.u8.wrap n = n := by
  simp only [IntKind.wrap, IntKind.bits, IntKind.signed]; simp; omega
section
variable (x y : Int)
theorem i32_and31 (h₀ : 0 ≤ x) (h₁ : x < 2147483648) : bits .and .i32 x (31) = x % 32 := bits_mask .i32 31 (by decide) wraps_i32 5 (by decide) x h₀ (by omega)
theorem i32_and15 (h₀ : 0 ≤ x) (h₁ : x < 2147483648) : bits .and .i32 x (15) = x % 16 := bits_mask .i32 31 (by decide) wraps_i32 4 (by decide) x h₀ (by omega)
theorem i32_and7 (h₀ : 0 ≤ x) (h₁ : x < 2147483648) : bits .and .i32 x (7) = x % 8 := bits_mask .i32 31 (by decide) wraps_i32 3 (by decide) x h₀ (by omega)
theorem i32_and63 (h₀ : 0 ≤ x) (h₁ : x < 2147483648) : bits .and .i32 x (63) = x % 64 := bits_mask .i32 31 (by decide) wraps_i32 6 (by decide) x h₀ (by omega)
theorem u8_and31 (h₀ : 0 ≤ x) (h₁ : x < 256) : bits .and .u8 x (31) = x % 32 := bits_mask .u8 8 (by decide) wraps_u8 5 (by decide) x h₀ (by omega)
theorem u8_and15 (h₀ : 0 ≤ x) (h₁ : x < 256) : bits .and .u8 x (15) = x % 16 := bits_mask .u8 8 (by decide) wraps_u8 4 (by decide) x h₀ (by omega)
theorem u8_and7 (h₀ : 0 ≤ x) (h₁ : x < 256) : bits .and .u8 x (7) = x % 8 := bits_mask .u8 8 (by decide) wraps_u8 3 (by decide) x h₀ (by omega)
theorem u8_and63 (h₀ : 0 ≤ x) (h₁ : x < 256) : bits .and .u8 x (63) = x % 64 := bits_mask .u8 8 (by decide) wraps_u8 6 (by decide) x h₀ (by omega)
theorem i32_or6 (hx₀ : 0 ≤ x) (hx₁ : x * 64 < 2147483648) (hy₀ : 0 ≤ y) (hy : y < 64) : bits .or .i32 (x * 64) y = x * 64 + y :=
  bits_join .i32 31 (by decide) wraps_i32 6 (x * 64) y (by omega) (by omega) (by omega) hy₀ hy (by omega)
theorem i32_or12 (hx₀ : 0 ≤ x) (hx₁ : x * 4096 < 2147483648) (hy₀ : 0 ≤ y) (hy : y < 4096) : bits .or .i32 (x * 4096) y = x * 4096 + y :=
  bits_join .i32 31 (by decide) wraps_i32 12 (x * 4096) y (by omega) (by omega) (by omega) hy₀ hy (by omega)
theorem i32_or18 (hx₀ : 0 ≤ x) (hx₁ : x * 262144 < 2147483648) (hy₀ : 0 ≤ y) (hy : y < 262144) : bits .or .i32 (x * 262144) y = x * 262144 + y :=
  bits_join .i32 31 (by decide) wraps_i32 18 (x * 262144) y (by omega) (by omega) (by omega) hy₀ hy (by omega)
theorem u8_or6 (hx₀ : 0 ≤ x) (hx₁ : x * 64 < 256) (hy₀ : 0 ≤ y) (hy : y < 64) : bits .or .u8 (x * 64) y = x * 64 + y :=
  bits_join .u8 8 (by decide) wraps_u8 6 (x * 64) y (by omega) (by omega) (by omega) hy₀ hy (by omega)
end
end Go.Proofs.YtioabdoghophlaaDoor
