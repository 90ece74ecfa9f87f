/-
  Package utf: the decoder.
-/
import Derived.Test.YtfcgjnmbbgioiaaUtf
import Derived.Test.YtfcgjnmbbgioiaaB
namespace Go.Proofs.Ytfcgjnmbbgioiaa
open Go.RowKit
set_option linter.unusedVariables false
set_option linter.unusedSimpArgs false
attribute [local go_sem] i32_and31 i32_and15 i32_and7 i32_or6

def bytesV (l : List Int) : List Value := l.map (Value.int .u8)
/-- A decoder whose waiting bytes are these. -/
def Dec (w : World) (b : Nat) (s : List Int) (F : Nat → Prop) : Prop :=
  ∃ v, Blk w b 43 #[v] ∧ Own w 5 1 v s.length (bytesV s) ∧ F = (fun k => k = b ∨ blkOf v k) ∧ s.length ≤ 4 ∧ ∀ x ∈ s, 0 ≤ x ∧ x ≤ 255

theorem decCell {w : World} {e : TypeId} {l : List Int} {g n cap : Nat} (h : Own w e 1 (.slice (some ⟨g, 0, none⟩) n cap) n (bytesV l)) {j : Nat} (hj : j < l.length) : w.cell? ⟨g, j, none⟩ = some (.int .u8 (l.getD j 0)) := by
  have hx : l.length = n := by simpa [bytesV] using h.1
  rw [h.cellAt j (by omega)]
  simp [bytesV, List.getD, hj]

/-- The sign of all bytes that wait. -/
def signR (s : List Int) : Int := match s with
  | [a] => a
  | [a, b] => a % 32 * 64 + b % 64
  | [a, b, c] => (a % 16 * 64 + b % 64) * 64 + c % 64
  | [a, b, c, d] => ((a % 8 * 64 + b % 64) * 64 + c % 64) * 64 + d % 64
  | _ => 0
theorem wrap_id (x : Int) (h0 : 0 ≤ x) (h1 : x < 2147483648) : wrap32 x = x := by unfold wrap32; omega
theorem shift_or (x y : Int) (h0 : 0 ≤ x) (h1 : x < 32768) (hy0 : 0 ≤ y) (hy : y ≤ 255) : bits BinOp.or IntKind.i32 (wrap32 (x * 64)) (y % 64) = x * 64 + y % 64 := by
  rw [wrap_id _ (by omega) (by omega), i32_or6 _ _ h0 (by omega) (by omega) (by omega)]

theorem dec_open {w : World} {b : Nat} {s : List Int} {F : Nat → Prop} (h : Dec w b s F) (h0 : s ≠ []) : ∃ g cap, w.cell? ⟨b, 0, none⟩ = some (.slice (some ⟨g, 0, none⟩) s.length cap) ∧ s.length ≤ cap ∧ cap ≤ 9223372036854775807 ∧ (∀ j, j < s.length → w.cell? ⟨g, j, none⟩ = some (.int .u8 (s.getD j 0))) ∧ ∀ x ∈ s, 0 ≤ x ∧ x ≤ 255 := by
  obtain ⟨v, hb, ho, rfl, hl, hx⟩ := h
  obtain ⟨ao, cap, rfl, hcap, hmax, hnone, hsome⟩ := ho.form
  cases ao with
  | none => exact absurd (List.length_eq_zero_iff.1 (hnone rfl).1) h0
  | some a =>
    obtain ⟨g, rfl⟩ := hsome a rfl
    exact ⟨g, cap, by rw [hb.cell]; rfl, hcap, hmax, fun j hj => decCell ho hj, hx⟩

set_option maxHeartbeats 1000000 in
theorem sign_1 (w : World) (b : Nat) (F : Nat → Prop) (a : Int) (h : Dec w b [a] F) : Calls Try.prog 28 #[.pointer (some ⟨b, 0, none⟩)] w fun e w' => e = .returned (.int .i32 (signR [a])) ∧ w' = w := by
  obtain ⟨g, cap, hc0, hcap, hmax, hcell, hx⟩ := dec_open h (by simp)
  have c0 := hcell 0 (by simp)
  obtain ⟨a0, a1⟩ := hx a (by simp)
  simp only [List.getD_cons_zero] at c0
  try simp only [List.length_cons, List.length_nil, Nat.zero_add, Nat.reduceAdd] at hcap hc0
  clear hcell hx h
  go_enter Try.func28, Try.ntmps28
  go_wp2
  all_goals
    refine wp_loop_rounds 1 ?_
    rw [rounds_succ]
    go_wp2
    go_ret
    exact ⟨rfl, rfl⟩
set_option maxHeartbeats 1000000 in
theorem sign_2 (w : World) (b : Nat) (F : Nat → Prop) (a b' : Int) (h : Dec w b [a, b'] F) : Calls Try.prog 28 #[.pointer (some ⟨b, 0, none⟩)] w fun e w' => e = .returned (.int .i32 (signR [a, b'])) ∧ w' = w := by
  obtain ⟨g, cap, hc0, hcap, hmax, hcell, hx⟩ := dec_open h (by simp)
  have c0 := hcell 0 (by simp); have c1 := hcell 1 (by simp); obtain ⟨a0, a1⟩ := hx a (by simp); obtain ⟨b0, b1⟩ := hx b' (by simp); simp only [List.getD_cons_zero, List.getD_cons_succ] at c0 c1
  try simp only [List.length_cons, List.length_nil, Nat.zero_add, Nat.reduceAdd] at hcap hc0
  clear hcell hx h
  go_enter Try.func28, Try.ntmps28
  go_wp2
  refine wp_loop_rounds 2 ?_
  rw [rounds_succ]; go_wp2; rw [rounds_succ]; go_wp2
  go_ret
  refine ⟨?_, rfl⟩
  show Ending.returned (Value.int .i32 _) = _
  congr 2
  try simp only [signR]
  rw [i32_and31 a a0 (by omega), shift_or _ _ (by omega) (by omega) b0 b1]
set_option maxHeartbeats 1000000 in
theorem sign_3 (w : World) (b : Nat) (F : Nat → Prop) (a b' c : Int) (h : Dec w b [a, b', c] F) : Calls Try.prog 28 #[.pointer (some ⟨b, 0, none⟩)] w fun e w' => e = .returned (.int .i32 (signR [a, b', c])) ∧ w' = w := by
  obtain ⟨g, cap, hc0, hcap, hmax, hcell, hx⟩ := dec_open h (by simp)
  have c0 := hcell 0 (by simp); have c1 := hcell 1 (by simp); have c2 := hcell 2 (by simp); obtain ⟨a0, a1⟩ := hx a (by simp); obtain ⟨b0, b1⟩ := hx b' (by simp); obtain ⟨d0, d1⟩ := hx c (by simp); simp only [List.getD_cons_zero, List.getD_cons_succ] at c0 c1 c2
  try simp only [List.length_cons, List.length_nil, Nat.zero_add, Nat.reduceAdd] at hcap hc0
  clear hcell hx h
  go_enter Try.func28, Try.ntmps28
  go_wp2
  refine wp_loop_rounds 3 ?_
  rw [rounds_succ]; go_wp2; rw [rounds_succ]; go_wp2; rw [rounds_succ]; go_wp2
  go_ret
  refine ⟨?_, rfl⟩
  show Ending.returned (Value.int .i32 _) = _
  congr 2
  try simp only [signR]
  rw [i32_and15 a a0 (by omega), shift_or _ _ (by omega) (by omega) b0 b1, shift_or _ _ (by omega) (by omega) d0 d1]
set_option maxHeartbeats 1000000 in
theorem sign_4 (w : World) (b : Nat) (F : Nat → Prop) (a b' c d : Int) (h : Dec w b [a, b', c, d] F) : Calls Try.prog 28 #[.pointer (some ⟨b, 0, none⟩)] w fun e w' => e = .returned (.int .i32 (signR [a, b', c, d])) ∧ w' = w := by
  obtain ⟨g, cap, hc0, hcap, hmax, hcell, hx⟩ := dec_open h (by simp)
  have c0 := hcell 0 (by simp); have c1 := hcell 1 (by simp); have c2 := hcell 2 (by simp); have c3 := hcell 3 (by simp); obtain ⟨a0, a1⟩ := hx a (by simp); obtain ⟨b0, b1⟩ := hx b' (by simp); obtain ⟨d0, d1⟩ := hx c (by simp); obtain ⟨f0, f1⟩ := hx d (by simp); simp only [List.getD_cons_zero, List.getD_cons_succ] at c0 c1 c2 c3
  try simp only [List.length_cons, List.length_nil, Nat.zero_add, Nat.reduceAdd] at hcap hc0
  clear hcell hx h
  go_enter Try.func28, Try.ntmps28
  go_wp2
  refine wp_loop_rounds 4 ?_
  rw [rounds_succ]; go_wp2; rw [rounds_succ]; go_wp2; rw [rounds_succ]; go_wp2; rw [rounds_succ]; go_wp2
  go_ret
  refine ⟨?_, rfl⟩
  show Ending.returned (Value.int .i32 _) = _
  congr 2
  try simp only [signR]
  rw [i32_and7 a a0 (by omega), shift_or _ _ (by omega) (by omega) b0 b1, shift_or _ _ (by omega) (by omega) d0 d1, shift_or _ _ (by omega) (by omega) f0 f1]
theorem sign_any (w : World) (b : Nat) (F : Nat → Prop) (s : List Int) (h : Dec w b s F) (h0 : s ≠ []) : Calls Try.prog 28 #[.pointer (some ⟨b, 0, none⟩)] w fun e w' => e = .returned (.int .i32 (signR s)) ∧ w' = w := by
  match s, h, h0 with
  | [a], h, _ => exact sign_1 w b F a h
  | [a, b'], h, _ => exact sign_2 w b F a b' h
  | [a, b', c], h, _ => exact sign_3 w b F a b' c h
  | [a, b', c, d], h, _ => exact sign_4 w b F a b' c d h
  | _ :: _ :: _ :: _ :: _ :: _, ⟨_, _, _, _, hl, _⟩, _ => simp at hl
end Go.Proofs.Ytfcgjnmbbgioiaa
