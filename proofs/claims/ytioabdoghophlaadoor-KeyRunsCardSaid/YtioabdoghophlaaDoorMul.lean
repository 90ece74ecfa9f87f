
/-
  bits.Mul of small numbers.
-/
import Derived.Test.YtioabdoghophlaaDoorK
import Derived.Handy
import Derived.Deep.DeepCutAuto
import Derived.Lib.EndianBits
namespace Go.Proofs.YtioabdoghophlaaDoor
open Go.RowKit
set_option linter.unusedVariables false
set_option linter.unusedSimpArgs false

theorem wrp_u64 (n : Int) (h₀ : 0 ≤ n) (h₁ : n < 18446744073709551616) : IntKind.u64.wrap n = n := by
  simp only [IntKind.wrap, IntKind.bits, IntKind.signed]; simp; omega
theorem and_low32 (x : Int) (h0 : 0 ≤ x) (h1 : x < 4294967296) : bits .and .u64 x 4294967295 = x := by
  have := bits_mask .u64 64 (by decide) (fun n h0 h1 => wrp_u64 n h0 h1) 32 (by decide) x h0 (by omega)
  rw [show ((2 : Int) ^ 32 - 1) = 4294967295 from rfl] at this
  rw [this]; omega
set_option maxHeartbeats 4000000 in
/-- The product of two small numbers. -/
theorem mul64_any (w : World) (x y : Nat) (hx : x < 4294967296) (hy : y < 4294967296) (hxy : x * y < 4294967296) : Calls Tryd.prog 121 #[.int .u64 x, .int .u64 y] w fun e w' => e = .returned (.tuple #[.int .u64 0, .int .u64 ((x * y : Nat) : Int)]) ∧ w' = w := by
  have a1 := and_low32 x (by omega) (by omega)
  have a2 := and_low32 y (by omega) (by omega)
  have hm : (x : Int) * (y : Int) = ((x * y : Nat) : Int) := by simp
  obtain ⟨p, hp⟩ : ∃ p, x * y = p := ⟨_, rfl⟩
  rw [hp] at hm hxy ⊢
  have hwm : IntKind.u64.wrap ((x : Int) * (y : Int)) = (p : Int) := by rw [hm]; exact wrp_u64 _ (by omega) (by omega)
  have dx : (x : Int) / 4294967296 = 0 := by omega
  have dy : (y : Int) / 4294967296 = 0 := by omega
  have dp : (p : Int) / 4294967296 = 0 := by omega
  have a0 : bits .and .u64 0 4294967295 = 0 := and_low32 0 (by omega) (by omega)
  have w0 : IntKind.u64.wrap 0 = 0 := by decide
  clear hm hp
  go_enter Tryd.func121, Tryd.ntmps121
  go_wp2
  go_ret2
  exact ⟨rfl, rfl⟩
theorem mul_any (w : World) (x y : Nat) (hx : x < 4294967296) (hy : y < 4294967296) (hxy : x * y < 4294967296) : Calls Tryd.prog 106 #[.int .u64 x, .int .u64 y] w fun e w' => e = .returned (.tuple #[.int .u64 0, .int .u64 ((x * y : Nat) : Int)]) ∧ w' = w := by
  have h64 := mul64_any w x y hx hy hxy
  obtain ⟨p, hp⟩ : ∃ p, x * y = p := ⟨_, rfl⟩
  rw [hp] at h64 ⊢
  have H64 := Lib.hid h64
  clear hp h64
  go_enter Tryd.func106, Tryd.ntmps106
  go_wp2_with fail
  go_at_call 121
  refine H64.out.mono ?_
  rintro e w' ⟨rfl, rfl⟩
  go_wp2
  go_ret2
  exact ⟨rfl, rfl⟩
end Go.Proofs.YtioabdoghophlaaDoor
