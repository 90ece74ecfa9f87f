/-
  Package utf: the small calls.
-/
import Derived.Test.YtfcgjnmbbgioiaaK
import Derived.Test.YtfcgjnmbbgioiaaC
namespace Go.Proofs.Ytfcgjnmbbgioiaa
open Go.RowKit
set_option linter.unusedVariables false
set_option linter.unusedSimpArgs false

/-- How many bytes a sign has that begins so. -/
def lenB (c : Int) : Int := if c < 128 then 1 else if 194 ≤ c ∧ c ≤ 223 then 2 else if 224 ≤ c ∧ c ≤ 239 then 3 else if 240 ≤ c ∧ c ≤ 244 then 4 else 0
/-- May a byte stand at a place behind a first one? -/
def folB (f c : Int) (at_ : Int) : Bool :=
  decide ((if at_ = 1 ∧ f = 224 then 160 else if at_ = 1 ∧ f = 240 then 144 else 128) ≤ c) && decide (c ≤ if at_ = 1 ∧ f = 237 then 159 else if at_ = 1 ∧ f = 244 then 143 else 191)
def isSign (r : Int) : Bool := decide (0 ≤ r ∧ r ≤ 1114111) && !decide (55296 ≤ r ∧ r ≤ 57343)
/-- How many bytes a number has. -/
def sizeR (r : Int) : Int := if isSign r then (if r < 128 then 1 else if r < 2048 then 2 else if r < 65536 then 3 else 4) else 3

set_option maxHeartbeats 1000000 in
theorem length_any (w : World) (c : Int) : Calls Try.prog 27 #[.int .u8 c] w fun e w' => e = .returned (.int .i64 (lenB c)) ∧ w' = w := by
  go_enter Try.func27, Try.ntmps27
  go_wp2
  all_goals go_ret
  all_goals (refine ⟨?_, rfl⟩; unfold lenB; show Ending.returned (Value.int .i64 _) = _; congr 2; (repeat' split) <;> omega)
set_option maxHeartbeats 1000000 in
theorem follows_any (w : World) (f c a : Int) : Calls Try.prog 26 #[.int .u8 f, .int .u8 c, .int .i64 a] w fun e w' => e = .returned (.bool (folB f c a)) ∧ w' = w := by
  go_enter Try.func26, Try.ntmps26
  go_wp2
  all_goals go_ret
  all_goals (refine ⟨?_, rfl⟩; unfold folB; show Ending.returned (Value.bool _) = _; congr 2)
  all_goals (simp only [beq_iff_eq, beq_eq_false_iff_ne, ne_eq] at *; rw [Bool.eq_iff_iff]; simp only [Bool.and_eq_true, decide_eq_true_eq, Bool.false_eq_true, false_iff]; (repeat' split) <;> omega)

set_option maxHeartbeats 1000000 in
theorem size_sign (w : World) (r : Int) (h : isSign r = true) : Calls Try.prog 17 #[.int .i32 r] w fun e w' => e = .returned (.int .i64 (sizeR r)) ∧ w' = w := by
  have h0 : 0 ≤ r ∧ r ≤ 1114111 ∧ ¬ (55296 ≤ r ∧ r ≤ 57343) := by simp [isSign] at h; omega
  obtain ⟨h1, h2, h3⟩ := h0
  have HS := Lib.hid h
  clear h
  go_enter Try.func17, Try.ntmps17
  go_wp2
  all_goals go_ret
  all_goals (refine ⟨?_, rfl⟩; unfold sizeR; rw [if_pos HS.out]; show Ending.returned (Value.int .i64 _) = _; congr 2; (repeat' split) <;> omega)
set_option maxHeartbeats 1000000 in
theorem size_any (w : World) (r : Int) : Calls Try.prog 17 #[.int .i32 r] w fun e w' => e = .returned (.int .i64 (sizeR r)) ∧ w' = w := by
  by_cases h : isSign r = true
  · exact size_sign w r h
  · have h0 : r < 0 ∨ 1114111 < r ∨ (55296 ≤ r ∧ r ≤ 57343) := by simp [isSign] at h; omega
    have hr : sizeR r = 3 := by unfold sizeR; rw [if_neg h]
    have HS := Lib.hid hr
    clear h hr
    rcases h0 with h1 | h1 | h1
    all_goals
      go_enter Try.func17, Try.ntmps17
      go_wp2_with (go_at_call 17; refine (size_sign _ 65533 (by decide)).mono ?_; rintro e w' ⟨rfl, rfl⟩)
      all_goals go_ret
      all_goals exact ⟨by rw [HS.out]; rfl, rfl⟩
end Go.Proofs.Ytfcgjnmbbgioiaa
