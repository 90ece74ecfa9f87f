
/-
  Numbers as bytes: wire.Var, and the document's Var.
-/
import Derived.Test.YtmekakecdgblaaaBy
import Derived.Deep.DeepCutAuto
import Derived.Lib.EndianBits
namespace Go.Proofs.Ytmekakecdgblaaa
open Go.RowKit
set_option linter.unusedVariables false
set_option linter.unusedSimpArgs false

/-- A number's bytes. -/
def varL (n : Nat) : List Int := if h : n < 128 then [(n : Int)] else (128 + ((n % 128 : Nat) : Int)) :: varL (n / 128)
decreasing_by omega
theorem varL_lt {n : Nat} (h : n < 128) : varL n = [(n : Int)] := by rw [varL, dif_pos h]
theorem varL_ge {n : Nat} (h : ¬ n < 128) : varL n = (128 + ((n % 128 : Nat) : Int)) :: varL (n / 128) := by rw [varL, dif_neg h]
theorem varL_len : ∀ (k n : Nat), n < 128 ^ (k + 1) → (varL n).length ≤ k + 1
  | 0, n, h => by rw [varL_lt (by simpa using h)]; simp
  | k + 1, n, h => by
    by_cases h1 : n < 128
    · rw [varL_lt h1]; simp
    · rw [varL_ge h1, List.length_cons]
      have := varL_len k (n / 128) (by rw [Nat.pow_succ] at h; omega)
      omega
set_option maxRecDepth 100000 in
theorem or_high : ∀ k : Fin 256, bits .or .u8 ((k.val : Nat) : Int) 128 = 128 + ((k.val % 128 : Nat) : Int) := by decide
theorem or128 (n : Nat) : bits .or .u8 ((n : Int) % 256) 128 = 128 + ((n % 128 : Nat) : Int) := by
  have h := or_high ⟨n % 256, by omega⟩
  simp only at h
  rw [show ((n % 256 : Nat) : Int) = (n : Int) % 256 by omega, Nat.mod_mod_of_dvd n (by decide)] at h
  exact h
set_option maxRecDepth 100000 in
set_option maxHeartbeats 4000000 in
theorem var_any (w : World) (n : Nat) (hn : n < 18446744073709551616) : Calls Try.prog 31 #[.int .u64 n] w fun e w' => ∃ v, e = .returned v ∧ Bx w w' v (varL n) := by
  go_enter Try.func31, Try.ntmps31
  go_wp2
  go_loopw [0, 3] (fun nv bv wr => ∃ (m : Nat) (L : List Int), m ≤ n ∧ nv = .int .u64 m ∧ Hid (L ++ varL m = varL n) ∧ Hid (Bx w wr bv L)) (fun nv _ _ => (intOf nv).toNat)
  case atStart => exact ⟨n, [], Nat.le_refl _, rfl, Lib.hid rfl, Lib.hid ⟨World.ownsRow_nil _ _ _ _, Chg.refl _ _, fun k hk => by cases hk⟩⟩
  case round =>
    obtain ⟨m, L, hm, rfl, HL, HB⟩ := hrel
    have hll : L.length ≤ 10 := by
      have h1 := congrArg List.length HL.out
      rw [List.length_append] at h1
      have h2 := varL_len 9 n (by omega)
      omega
    obtain ⟨ao, co, rfl, _⟩ := HB.out.1.form
    by_cases h : m < 128
    · have hi : ¬ (128 : Int) ≤ (m : Int) := by omega
      have hw : IntKind.u8.wrap (m : Int) = (m : Int) := by rw [wraps_u8']; omega
      rw [varL_lt h] at HL
      go_wp2_with (at_builtin; refine wpList_push rfl (.tmp 14) (.tmp 17) 23 rfl 5 (.int .u8 0) 1 1 i_byte u_bytes rfl (by decide) (.slice ao L.length co) L.length _ rfl HB.out.1 1 1 rfl rfl rfl (by unfold maxLen; omega) (by omega) ?_)
      intro v1 w1 ho hch hfo
      have hb := HB.out.pushs (ys := [(m : Int)]) ho hch hfo rfl (by simp)
      have HB1 := Lib.hid hb
      clear hb ho hch hfo
      go_wp2
      go_ret
      exact ⟨_, rfl, by rw [← HL.out]; exact HB1.out⟩
    · have hi : (128 : Int) ≤ (m : Int) := by omega
      have hw : IntKind.u8.wrap (m : Int) = ((m % 256 : Nat) : Int) := wraps_u8' m
      have ho8 := or128 m
      rw [varL_ge h] at HL
      go_wp2_with (at_builtin; refine wpList_push rfl (.tmp 8) (.tmp 12) 23 rfl 5 (.int .u8 0) 1 1 i_byte u_bytes rfl (by decide) (.slice ao L.length co) L.length _ rfl HB.out.1 1 1 rfl rfl rfl (by unfold maxLen; omega) (by omega) ?_)
      intro v1 w1 ho hch hfo
      have hb := HB.out.pushs (ys := [128 + ((m % 128 : Nat) : Int)]) ho hch hfo (by simp [bytesV]) (by simp)
      obtain ⟨a1, c1, rfl, _⟩ := ho.form
      have HB1 := Lib.hid hb
      clear hb ho hch hfo ho8
      go_wp2
      go_roundw
      case rel => exact ⟨m / 128, L ++ [128 + ((m % 128 : Nat) : Int)], by omega, by congr 1, Lib.hid (by rw [List.append_assoc]; exact HL.out), HB1⟩
      case measure => simp [intOf]; omega
theorem varL_byte (n : Nat) : ∀ x ∈ varL n, 0 ≤ x ∧ x ≤ 255 := by
  intro x hx
  by_cases h : n < 128
  · rw [varL_lt h, List.mem_singleton] at hx; omega
  · rw [varL_ge h] at hx
    rcases List.mem_cons.1 hx with hx | hx
    · omega
    · exact varL_byte (n / 128) x hx
termination_by n
decreasing_by omega
theorem wraps_u64 (n : Int) (h₀ : 0 ≤ n) (h₁ : n < 2 ^ 64) : IntKind.u64.wrap n = n := by
  simp only [IntKind.wrap, IntKind.bits, IntKind.signed]; simp; omega
theorem u64_and127 (x : Int) (h₀ : 0 ≤ x) (h₁ : x < 18446744073709551616) : bits .and .u64 x 127 = x % 128 := bits_mask .u64 64 (by decide) wraps_u64 7 (by decide) x h₀ (by omega)
set_option maxRecDepth 100000 in
theorem or_low : ∀ k : Fin 128, bits .or .u64 ((k.val : Nat) : Int) 128 = 128 + ((k.val : Nat) : Int) := by decide
theorem u64_or128 (n : Nat) : bits .or .u64 ((n : Int) % 128) 128 = 128 + ((n % 128 : Nat) : Int) := by
  have h := or_low ⟨n % 128, by omega⟩
  simp only at h
  rw [show ((n % 128 : Nat) : Int) = (n : Int) % 128 by omega] at h ⊢
  exact h
set_option maxRecDepth 100000 in
set_option maxHeartbeats 4000000 in
theorem refvar_any (w : World) (n : Nat) (hn : n < 18446744073709551616) : Calls Try.prog 32 #[.int .u64 n] w fun e w' => ∃ v, e = .returned v ∧ Bx w w' v (varL n) := by
  go_enter Try.func32, Try.ntmps32
  go_wp2
  go_loopw [0, 3] (fun nv bv wr => ∃ (m : Nat) (L : List Int), m ≤ n ∧ nv = .int .u64 m ∧ Hid (L ++ varL m = varL n) ∧ Hid (Bx w wr bv L)) (fun nv _ _ => (intOf nv).toNat)
  case atStart => exact ⟨n, [], Nat.le_refl _, rfl, Lib.hid rfl, Lib.hid ⟨World.ownsRow_nil _ _ _ _, Chg.refl _ _, fun k hk => by cases hk⟩⟩
  case round =>
    obtain ⟨m, L, hm, rfl, HL, HB⟩ := hrel
    have hll : L.length ≤ 10 := by
      have h1 := congrArg List.length HL.out
      rw [List.length_append] at h1
      have h2 := varL_len 9 n (by omega)
      omega
    obtain ⟨ao, co, rfl, _⟩ := HB.out.1.form
    by_cases h : m < 128
    · have hi : ¬ (127 : Int) < (m : Int) := by omega
      have hw : IntKind.u8.wrap (m : Int) = (m : Int) := by rw [wraps_u8']; omega
      rw [varL_lt h] at HL
      go_wp2_with (at_builtin; refine wpList_push rfl (.tmp 15) (.tmp 18) 23 rfl 5 (.int .u8 0) 1 1 i_byte u_bytes rfl (by decide) (.slice ao L.length co) L.length _ rfl HB.out.1 1 1 rfl rfl rfl (by unfold maxLen; omega) (by omega) ?_)
      intro v1 w1 ho hch hfo
      have hb := HB.out.pushs (ys := [(m : Int)]) ho hch hfo rfl (by simp)
      have HB1 := Lib.hid hb
      clear hb ho hch hfo
      go_wp2
      go_ret
      exact ⟨_, rfl, by rw [← HL.out]; exact HB1.out⟩
    · have hi : (127 : Int) < (m : Int) := by omega
      have hm7 : bits .and .u64 (m : Int) 127 = (m : Int) % 128 := u64_and127 _ (by omega) (by omega)
      have ho8 := u64_or128 m
      have hw : IntKind.u8.wrap (128 + ((m % 128 : Nat) : Int)) = 128 + ((m % 128 : Nat) : Int) := by
        rw [show (128 + ((m % 128 : Nat) : Int)) = ((128 + m % 128 : Nat) : Int) by omega, wraps_u8']; omega
      rw [varL_ge h] at HL
      go_wp2_with (at_builtin; refine wpList_push rfl (.tmp 6) (.tmp 11) 23 rfl 5 (.int .u8 0) 1 1 i_byte u_bytes rfl (by decide) (.slice ao L.length co) L.length _ rfl HB.out.1 1 1 rfl rfl rfl (by unfold maxLen; omega) (by omega) ?_)
      intro v1 w1 ho hch hfo
      have hb := HB.out.pushs (ys := [128 + ((m % 128 : Nat) : Int)]) ho hch hfo (by first | rfl | simp [bytesV]) (by simp)
      obtain ⟨a1, c1, rfl, _⟩ := ho.form
      have HB1 := Lib.hid hb
      clear hb ho hch hfo ho8 hm7
      go_wp2
      go_roundw
      case rel => exact ⟨m / 128, L ++ [128 + ((m % 128 : Nat) : Int)], by omega, by congr 1, Lib.hid (by rw [List.append_assoc]; exact HL.out), HB1⟩
      case measure => simp [intOf]; omega
end Go.Proofs.Ytmekakecdgblaaa
