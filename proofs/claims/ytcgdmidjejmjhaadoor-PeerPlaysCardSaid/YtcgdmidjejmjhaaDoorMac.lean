
/-
  Package mac: words turned; the words of a block.
-/
import Derived.Test.YtcgdmidjejmjhaaDoorSha
import Derived.Test.YtcgdmidjejmjhaaDoorBx
import Derived.Deep.QuietTactic
import Derived.BigQuiet
import Derived.Handy
namespace Go.Proofs.YtcgdmidjejmjhaaDoor
open Go.RowKit
set_option linter.unusedVariables false
set_option linter.unusedSimpArgs false

theorem rotate_2 (w : World) (x : Int) : Calls Tryd.prog 51 #[.int .u32 x, .int .i64 (-2)] w fun e w' => e = .returned (.int .u32 (rotR x 2)) ∧ w' = w := by
  have h1 : IntKind.u64.wrap (-2) = 18446744073709551614 := by decide
  have h2 : bits .and .u64 18446744073709551614 31 = 30 := by decide
  go_enter Tryd.func51, Tryd.ntmps51
  go_wp2
  go_ret
  exact ⟨rfl, rfl⟩
theorem right_2 (w : World) (x : Int) : Calls Tryd.prog 48 #[.int .u32 x, .int .i64 2] w fun e w' => e = .returned (.int .u32 (rotR x 2)) ∧ w' = w := by
  go_enter Tryd.func48, Tryd.ntmps48
  go_wp2_with fail
  go_at_call 51
  refine (rotate_2 w x).mono ?_
  rintro e w' ⟨rfl, rfl⟩
  go_wp2
  go_ret
  exact ⟨rfl, rfl⟩
theorem rotate_6 (w : World) (x : Int) : Calls Tryd.prog 51 #[.int .u32 x, .int .i64 (-6)] w fun e w' => e = .returned (.int .u32 (rotR x 6)) ∧ w' = w := by
  have h1 : IntKind.u64.wrap (-6) = 18446744073709551610 := by decide
  have h2 : bits .and .u64 18446744073709551610 31 = 26 := by decide
  go_enter Tryd.func51, Tryd.ntmps51
  go_wp2
  go_ret
  exact ⟨rfl, rfl⟩
theorem right_6 (w : World) (x : Int) : Calls Tryd.prog 48 #[.int .u32 x, .int .i64 6] w fun e w' => e = .returned (.int .u32 (rotR x 6)) ∧ w' = w := by
  go_enter Tryd.func48, Tryd.ntmps48
  go_wp2_with fail
  go_at_call 51
  refine (rotate_6 w x).mono ?_
  rintro e w' ⟨rfl, rfl⟩
  go_wp2
  go_ret
  exact ⟨rfl, rfl⟩
theorem rotate_7 (w : World) (x : Int) : Calls Tryd.prog 51 #[.int .u32 x, .int .i64 (-7)] w fun e w' => e = .returned (.int .u32 (rotR x 7)) ∧ w' = w := by
  have h1 : IntKind.u64.wrap (-7) = 18446744073709551609 := by decide
  have h2 : bits .and .u64 18446744073709551609 31 = 25 := by decide
  go_enter Tryd.func51, Tryd.ntmps51
  go_wp2
  go_ret
  exact ⟨rfl, rfl⟩
theorem right_7 (w : World) (x : Int) : Calls Tryd.prog 48 #[.int .u32 x, .int .i64 7] w fun e w' => e = .returned (.int .u32 (rotR x 7)) ∧ w' = w := by
  go_enter Tryd.func48, Tryd.ntmps48
  go_wp2_with fail
  go_at_call 51
  refine (rotate_7 w x).mono ?_
  rintro e w' ⟨rfl, rfl⟩
  go_wp2
  go_ret
  exact ⟨rfl, rfl⟩
theorem rotate_11 (w : World) (x : Int) : Calls Tryd.prog 51 #[.int .u32 x, .int .i64 (-11)] w fun e w' => e = .returned (.int .u32 (rotR x 11)) ∧ w' = w := by
  have h1 : IntKind.u64.wrap (-11) = 18446744073709551605 := by decide
  have h2 : bits .and .u64 18446744073709551605 31 = 21 := by decide
  go_enter Tryd.func51, Tryd.ntmps51
  go_wp2
  go_ret
  exact ⟨rfl, rfl⟩
theorem right_11 (w : World) (x : Int) : Calls Tryd.prog 48 #[.int .u32 x, .int .i64 11] w fun e w' => e = .returned (.int .u32 (rotR x 11)) ∧ w' = w := by
  go_enter Tryd.func48, Tryd.ntmps48
  go_wp2_with fail
  go_at_call 51
  refine (rotate_11 w x).mono ?_
  rintro e w' ⟨rfl, rfl⟩
  go_wp2
  go_ret
  exact ⟨rfl, rfl⟩
theorem rotate_13 (w : World) (x : Int) : Calls Tryd.prog 51 #[.int .u32 x, .int .i64 (-13)] w fun e w' => e = .returned (.int .u32 (rotR x 13)) ∧ w' = w := by
  have h1 : IntKind.u64.wrap (-13) = 18446744073709551603 := by decide
  have h2 : bits .and .u64 18446744073709551603 31 = 19 := by decide
  go_enter Tryd.func51, Tryd.ntmps51
  go_wp2
  go_ret
  exact ⟨rfl, rfl⟩
theorem right_13 (w : World) (x : Int) : Calls Tryd.prog 48 #[.int .u32 x, .int .i64 13] w fun e w' => e = .returned (.int .u32 (rotR x 13)) ∧ w' = w := by
  go_enter Tryd.func48, Tryd.ntmps48
  go_wp2_with fail
  go_at_call 51
  refine (rotate_13 w x).mono ?_
  rintro e w' ⟨rfl, rfl⟩
  go_wp2
  go_ret
  exact ⟨rfl, rfl⟩
theorem rotate_17 (w : World) (x : Int) : Calls Tryd.prog 51 #[.int .u32 x, .int .i64 (-17)] w fun e w' => e = .returned (.int .u32 (rotR x 17)) ∧ w' = w := by
  have h1 : IntKind.u64.wrap (-17) = 18446744073709551599 := by decide
  have h2 : bits .and .u64 18446744073709551599 31 = 15 := by decide
  go_enter Tryd.func51, Tryd.ntmps51
  go_wp2
  go_ret
  exact ⟨rfl, rfl⟩
theorem right_17 (w : World) (x : Int) : Calls Tryd.prog 48 #[.int .u32 x, .int .i64 17] w fun e w' => e = .returned (.int .u32 (rotR x 17)) ∧ w' = w := by
  go_enter Tryd.func48, Tryd.ntmps48
  go_wp2_with fail
  go_at_call 51
  refine (rotate_17 w x).mono ?_
  rintro e w' ⟨rfl, rfl⟩
  go_wp2
  go_ret
  exact ⟨rfl, rfl⟩
theorem rotate_18 (w : World) (x : Int) : Calls Tryd.prog 51 #[.int .u32 x, .int .i64 (-18)] w fun e w' => e = .returned (.int .u32 (rotR x 18)) ∧ w' = w := by
  have h1 : IntKind.u64.wrap (-18) = 18446744073709551598 := by decide
  have h2 : bits .and .u64 18446744073709551598 31 = 14 := by decide
  go_enter Tryd.func51, Tryd.ntmps51
  go_wp2
  go_ret
  exact ⟨rfl, rfl⟩
theorem right_18 (w : World) (x : Int) : Calls Tryd.prog 48 #[.int .u32 x, .int .i64 18] w fun e w' => e = .returned (.int .u32 (rotR x 18)) ∧ w' = w := by
  go_enter Tryd.func48, Tryd.ntmps48
  go_wp2_with fail
  go_at_call 51
  refine (rotate_18 w x).mono ?_
  rintro e w' ⟨rfl, rfl⟩
  go_wp2
  go_ret
  exact ⟨rfl, rfl⟩
theorem rotate_19 (w : World) (x : Int) : Calls Tryd.prog 51 #[.int .u32 x, .int .i64 (-19)] w fun e w' => e = .returned (.int .u32 (rotR x 19)) ∧ w' = w := by
  have h1 : IntKind.u64.wrap (-19) = 18446744073709551597 := by decide
  have h2 : bits .and .u64 18446744073709551597 31 = 13 := by decide
  go_enter Tryd.func51, Tryd.ntmps51
  go_wp2
  go_ret
  exact ⟨rfl, rfl⟩
theorem right_19 (w : World) (x : Int) : Calls Tryd.prog 48 #[.int .u32 x, .int .i64 19] w fun e w' => e = .returned (.int .u32 (rotR x 19)) ∧ w' = w := by
  go_enter Tryd.func48, Tryd.ntmps48
  go_wp2_with fail
  go_at_call 51
  refine (rotate_19 w x).mono ?_
  rintro e w' ⟨rfl, rfl⟩
  go_wp2
  go_ret
  exact ⟨rfl, rfl⟩
theorem rotate_22 (w : World) (x : Int) : Calls Tryd.prog 51 #[.int .u32 x, .int .i64 (-22)] w fun e w' => e = .returned (.int .u32 (rotR x 22)) ∧ w' = w := by
  have h1 : IntKind.u64.wrap (-22) = 18446744073709551594 := by decide
  have h2 : bits .and .u64 18446744073709551594 31 = 10 := by decide
  go_enter Tryd.func51, Tryd.ntmps51
  go_wp2
  go_ret
  exact ⟨rfl, rfl⟩
theorem right_22 (w : World) (x : Int) : Calls Tryd.prog 48 #[.int .u32 x, .int .i64 22] w fun e w' => e = .returned (.int .u32 (rotR x 22)) ∧ w' = w := by
  go_enter Tryd.func48, Tryd.ntmps48
  go_wp2_with fail
  go_at_call 51
  refine (rotate_22 w x).mono ?_
  rintro e w' ⟨rfl, rfl⟩
  go_wp2
  go_ret
  exact ⟨rfl, rfl⟩
theorem rotate_25 (w : World) (x : Int) : Calls Tryd.prog 51 #[.int .u32 x, .int .i64 (-25)] w fun e w' => e = .returned (.int .u32 (rotR x 25)) ∧ w' = w := by
  have h1 : IntKind.u64.wrap (-25) = 18446744073709551591 := by decide
  have h2 : bits .and .u64 18446744073709551591 31 = 7 := by decide
  go_enter Tryd.func51, Tryd.ntmps51
  go_wp2
  go_ret
  exact ⟨rfl, rfl⟩
theorem right_25 (w : World) (x : Int) : Calls Tryd.prog 48 #[.int .u32 x, .int .i64 25] w fun e w' => e = .returned (.int .u32 (rotR x 25)) ∧ w' = w := by
  go_enter Tryd.func48, Tryd.ntmps48
  go_wp2_with fail
  go_at_call 51
  refine (rotate_25 w x).mono ?_
  rintro e w' ⟨rfl, rfl⟩
  go_wp2
  go_ret
  exact ⟨rfl, rfl⟩
end Go.Proofs.YtcgdmidjejmjhaaDoor
