/-
  Chapter 8: the walk of EscControls where its guards do not hold.
-/
import Derived.Test.YtaficleoimfejaaEsc15
namespace Go.Proofs.Ytaficleoimfejaa
open Go.RowKit
set_option linter.unusedVariables false
set_option linter.unusedSimpArgs false

theorem guard_dec (n : Nat) (p i f : Int) : (n ≤ 16 ∧ (64 ≤ f ∧ f ≤ 126) ∧ (p = 0 ∨ (60 ≤ p ∧ p ≤ 63)) ∧ (i = 0 ∨ (32 ≤ i ∧ i ≤ 47))) ∨ 16 < n ∨ (n ≤ 16 ∧ f < 64) ∨ (n ≤ 16 ∧ 64 ≤ f ∧ 126 < f) ∨
    (n ≤ 16 ∧ (64 ≤ f ∧ f ≤ 126) ∧ (p ≠ 0 ∧ p < 60)) ∨ (n ≤ 16 ∧ (64 ≤ f ∧ f ≤ 126) ∧ (p ≠ 0 ∧ ¬ p < 60 ∧ 63 < p)) ∨
    (n ≤ 16 ∧ (64 ≤ f ∧ f ≤ 126) ∧ (p = 0 ∨ (60 ≤ p ∧ p ≤ 63)) ∧ (i ≠ 0 ∧ i < 32)) ∨ (n ≤ 16 ∧ (64 ≤ f ∧ f ≤ 126) ∧ (p = 0 ∨ (60 ≤ p ∧ p ≤ 63)) ∧ (i ≠ 0 ∧ ¬ i < 32 ∧ 47 < i)) := by omega
set_option maxRecDepth 100000 in
set_option maxHeartbeats 16000000 in
theorem EscControls_bad (a0 : Option Addr) (len0 cap0 : Nat) (l0 : List Int) (a1 a2 a3 : Int) (w : World)
    (hr0 : Rd w 1 (.slice a0 len0 cap0) len0 (l0.map (Value.int .i64))) (hl0 : l0.length = len0) (y0 : len0 * 8 ≤ 140737488351232) (w0 : ∀ x ∈ l0, -9223372036854775808 ≤ x ∧ x ≤ 9223372036854775807)
    (w1 : -2147483648 ≤ a1 ∧ a1 ≤ 2147483647) (w2 : -2147483648 ≤ a2 ∧ a2 ≤ 2147483647) (w3 : -2147483648 ≤ a3 ∧ a3 ≤ 2147483647)
    (hbad : 16 < l0.length ∨ (l0.length ≤ 16 ∧ a3 < 64) ∨ (l0.length ≤ 16 ∧ 64 ≤ a3 ∧ 126 < a3) ∨ (l0.length ≤ 16 ∧ (64 ≤ a3 ∧ a3 ≤ 126) ∧ (a1 ≠ 0 ∧ a1 < 60)) ∨ (l0.length ≤ 16 ∧ (64 ≤ a3 ∧ a3 ≤ 126) ∧ (a1 ≠ 0 ∧ ¬ a1 < 60 ∧ 63 < a1)) ∨ (l0.length ≤ 16 ∧ (64 ≤ a3 ∧ a3 ≤ 126) ∧ (a1 = 0 ∨ (60 ≤ a1 ∧ a1 ≤ 63)) ∧ (a2 ≠ 0 ∧ a2 < 32)) ∨ (l0.length ≤ 16 ∧ (64 ≤ a3 ∧ a3 ≤ 126) ∧ (a1 = 0 ∨ (60 ≤ a1 ∧ a1 ≤ 63)) ∧ (a2 ≠ 0 ∧ ¬ a2 < 32 ∧ 47 < a2))) :
    Calls Try.prog 4 #[.slice a0 len0 cap0, .int .i32 a1, .int .i32 a2, .int .i32 a3] w fun e w' => e = .returned (.bool true) ∧ Chg w w' nob := by
  subst hl0
  have HR0 : Hid (Rd w 1 (.slice a0 l0.length cap0) l0.length (intI l0)) := Lib.hid hr0
  have HW0 := Lib.hid w0
  clear hr0 w0 y0 w1 w2 w3
  go_enter Try.func4, Try.ntmps4
  go_wp2_with fail
  go_at_call 7
  refine (efirst_any _).mono ?_
  rintro e wA ⟨rfl, hA⟩
  have HA := Lib.hid hA
  clear hA
  rcases hbad with c | ⟨c, d⟩ | ⟨c, d, d'⟩ | ⟨c, ⟨d, d'⟩, e1, e2⟩ | ⟨c, ⟨d, d'⟩, e1, e2, e3⟩ | ⟨c, ⟨d, d'⟩, hp, e1, e2⟩ | ⟨c, ⟨d, d'⟩, hp, e1, e2, e3⟩
  · have m1 : (16 : Int) < (l0.length : Int) := by omega
    go_wp2_with fail
    go_at_call 7
    refine (efirst_any _).mono ?_
    rintro e wC ⟨rfl, hC⟩
    go_wp2
    go_ret
    exact ⟨rfl, HA.out.trans hC fun _ _ h => h⟩
  · have m1 : ¬ (16 : Int) < (l0.length : Int) := by omega
    go_wp2_with fail
    go_at_call 7
    refine (efirst_any _).mono ?_
    rintro e wC ⟨rfl, hC⟩
    go_wp2
    go_ret
    exact ⟨rfl, HA.out.trans hC fun _ _ h => h⟩
  · have m1 : ¬ (16 : Int) < (l0.length : Int) := by omega
    have m2 : ¬ a3 < 64 := by omega
    go_wp2_with fail
    go_at_call 7
    refine (efirst_any _).mono ?_
    rintro e wC ⟨rfl, hC⟩
    go_wp2
    go_ret
    exact ⟨rfl, HA.out.trans hC fun _ _ h => h⟩
  · have m1 : ¬ (16 : Int) < (l0.length : Int) := by omega
    have m2 : ¬ a3 < 64 := by omega
    have m3 : ¬ 126 < a3 := by omega
    have m4 : (a1 != 0) = true := by simpa using e1
    clear e1
    go_wp2_with fail
    go_at_call 7
    refine (efirst_any _).mono ?_
    rintro e wC ⟨rfl, hC⟩
    go_wp2
    go_ret
    exact ⟨rfl, HA.out.trans hC fun _ _ h => h⟩
  · have m1 : ¬ (16 : Int) < (l0.length : Int) := by omega
    have m2 : ¬ a3 < 64 := by omega
    have m3 : ¬ 126 < a3 := by omega
    have m4 : (a1 != 0) = true := by simpa using e1
    clear e1
    go_wp2_with fail
    go_at_call 7
    refine (efirst_any _).mono ?_
    rintro e wC ⟨rfl, hC⟩
    go_wp2
    go_ret
    exact ⟨rfl, HA.out.trans hC fun _ _ h => h⟩
  · have m1 : ¬ (16 : Int) < (l0.length : Int) := by omega
    have m2 : ¬ a3 < 64 := by omega
    have m3 : ¬ 126 < a3 := by omega
    have m4 : (a2 != 0) = true := by simpa using e1
    clear e1
    rcases hp with rfl | ⟨hp, hp'⟩
    · skip
      go_wp2_with fail
      go_at_call 7
      refine (efirst_any _).mono ?_
      rintro e wC ⟨rfl, hC⟩
      go_wp2
      go_ret
      exact ⟨rfl, HA.out.trans hC fun _ _ h => h⟩
    · have m5 : (a1 != 0) = true := by simp; omega
      have m6 : ¬ a1 < 60 := by omega
      have m7 : ¬ 63 < a1 := by omega
      go_wp2_with fail
      go_at_call 7
      refine (efirst_any _).mono ?_
      rintro e wC ⟨rfl, hC⟩
      go_wp2
      go_ret
      exact ⟨rfl, HA.out.trans hC fun _ _ h => h⟩
  · have m1 : ¬ (16 : Int) < (l0.length : Int) := by omega
    have m2 : ¬ a3 < 64 := by omega
    have m3 : ¬ 126 < a3 := by omega
    have m4 : (a2 != 0) = true := by simpa using e1
    clear e1
    rcases hp with rfl | ⟨hp, hp'⟩
    · skip
      go_wp2_with fail
      go_at_call 7
      refine (efirst_any _).mono ?_
      rintro e wC ⟨rfl, hC⟩
      go_wp2
      go_ret
      exact ⟨rfl, HA.out.trans hC fun _ _ h => h⟩
    · have m5 : (a1 != 0) = true := by simp; omega
      have m6 : ¬ a1 < 60 := by omega
      have m7 : ¬ 63 < a1 := by omega
      go_wp2_with fail
      go_at_call 7
      refine (efirst_any _).mono ?_
      rintro e wC ⟨rfl, hC⟩
      go_wp2
      go_ret
      exact ⟨rfl, HA.out.trans hC fun _ _ h => h⟩
end Go.Proofs.Ytaficleoimfejaa
