
/-
  The document's sum: words turned, numbers as bytes.
-/
import Derived.Test.YtcgdmidjejmjhaaDoorMac2
import Derived.Test.YtcgdmidjejmjhaaDoorMac5
namespace Go.Proofs.YtcgdmidjejmjhaaDoor
open Go.RowKit
set_option linter.unusedVariables false
set_option linter.unusedSimpArgs false

theorem turn_2 (w : World) (x : Int) : Calls Tryd.prog 50 #[.int .u32 x, .int .u64 2] w fun e w' => e = .returned (.int .u32 (rotR x 2)) ∧ w' = w := by
  have ho : bits .or .u32 (x / 2 ^ 2) (IntKind.u32.wrap (x * 2 ^ (32 - 2))) = rotR x 2 := or_comm' _ _ _
  go_enter Tryd.func50, Tryd.ntmps50
  go_wp2
  go_ret
  exact ⟨by rw [← ho]; rfl, rfl⟩
theorem turn_6 (w : World) (x : Int) : Calls Tryd.prog 50 #[.int .u32 x, .int .u64 6] w fun e w' => e = .returned (.int .u32 (rotR x 6)) ∧ w' = w := by
  have ho : bits .or .u32 (x / 2 ^ 6) (IntKind.u32.wrap (x * 2 ^ (32 - 6))) = rotR x 6 := or_comm' _ _ _
  go_enter Tryd.func50, Tryd.ntmps50
  go_wp2
  go_ret
  exact ⟨by rw [← ho]; rfl, rfl⟩
theorem turn_7 (w : World) (x : Int) : Calls Tryd.prog 50 #[.int .u32 x, .int .u64 7] w fun e w' => e = .returned (.int .u32 (rotR x 7)) ∧ w' = w := by
  have ho : bits .or .u32 (x / 2 ^ 7) (IntKind.u32.wrap (x * 2 ^ (32 - 7))) = rotR x 7 := or_comm' _ _ _
  go_enter Tryd.func50, Tryd.ntmps50
  go_wp2
  go_ret
  exact ⟨by rw [← ho]; rfl, rfl⟩
theorem turn_11 (w : World) (x : Int) : Calls Tryd.prog 50 #[.int .u32 x, .int .u64 11] w fun e w' => e = .returned (.int .u32 (rotR x 11)) ∧ w' = w := by
  have ho : bits .or .u32 (x / 2 ^ 11) (IntKind.u32.wrap (x * 2 ^ (32 - 11))) = rotR x 11 := or_comm' _ _ _
  go_enter Tryd.func50, Tryd.ntmps50
  go_wp2
  go_ret
  exact ⟨by rw [← ho]; rfl, rfl⟩
theorem turn_13 (w : World) (x : Int) : Calls Tryd.prog 50 #[.int .u32 x, .int .u64 13] w fun e w' => e = .returned (.int .u32 (rotR x 13)) ∧ w' = w := by
  have ho : bits .or .u32 (x / 2 ^ 13) (IntKind.u32.wrap (x * 2 ^ (32 - 13))) = rotR x 13 := or_comm' _ _ _
  go_enter Tryd.func50, Tryd.ntmps50
  go_wp2
  go_ret
  exact ⟨by rw [← ho]; rfl, rfl⟩
theorem turn_17 (w : World) (x : Int) : Calls Tryd.prog 50 #[.int .u32 x, .int .u64 17] w fun e w' => e = .returned (.int .u32 (rotR x 17)) ∧ w' = w := by
  have ho : bits .or .u32 (x / 2 ^ 17) (IntKind.u32.wrap (x * 2 ^ (32 - 17))) = rotR x 17 := or_comm' _ _ _
  go_enter Tryd.func50, Tryd.ntmps50
  go_wp2
  go_ret
  exact ⟨by rw [← ho]; rfl, rfl⟩
theorem turn_18 (w : World) (x : Int) : Calls Tryd.prog 50 #[.int .u32 x, .int .u64 18] w fun e w' => e = .returned (.int .u32 (rotR x 18)) ∧ w' = w := by
  have ho : bits .or .u32 (x / 2 ^ 18) (IntKind.u32.wrap (x * 2 ^ (32 - 18))) = rotR x 18 := or_comm' _ _ _
  go_enter Tryd.func50, Tryd.ntmps50
  go_wp2
  go_ret
  exact ⟨by rw [← ho]; rfl, rfl⟩
theorem turn_19 (w : World) (x : Int) : Calls Tryd.prog 50 #[.int .u32 x, .int .u64 19] w fun e w' => e = .returned (.int .u32 (rotR x 19)) ∧ w' = w := by
  have ho : bits .or .u32 (x / 2 ^ 19) (IntKind.u32.wrap (x * 2 ^ (32 - 19))) = rotR x 19 := or_comm' _ _ _
  go_enter Tryd.func50, Tryd.ntmps50
  go_wp2
  go_ret
  exact ⟨by rw [← ho]; rfl, rfl⟩
theorem turn_22 (w : World) (x : Int) : Calls Tryd.prog 50 #[.int .u32 x, .int .u64 22] w fun e w' => e = .returned (.int .u32 (rotR x 22)) ∧ w' = w := by
  have ho : bits .or .u32 (x / 2 ^ 22) (IntKind.u32.wrap (x * 2 ^ (32 - 22))) = rotR x 22 := or_comm' _ _ _
  go_enter Tryd.func50, Tryd.ntmps50
  go_wp2
  go_ret
  exact ⟨by rw [← ho]; rfl, rfl⟩
theorem turn_25 (w : World) (x : Int) : Calls Tryd.prog 50 #[.int .u32 x, .int .u64 25] w fun e w' => e = .returned (.int .u32 (rotR x 25)) ∧ w' = w := by
  have ho : bits .or .u32 (x / 2 ^ 25) (IntKind.u32.wrap (x * 2 ^ (32 - 25))) = rotR x 25 := or_comm' _ _ _
  go_enter Tryd.func50, Tryd.ntmps50
  go_wp2
  go_ret
  exact ⟨by rw [← ho]; rfl, rfl⟩
theorem wrp_u64' (n : Int) (h₀ : 0 ≤ n) (h₁ : n < 2 ^ 64) : IntKind.u64.wrap n = n := by
  simp only [IntKind.wrap, IntKind.bits, IntKind.signed]; simp; omega
theorem u64_or8 (x y : Int) (hx₀ : 0 ≤ x) (hx₁ : x < 16777216) (hy₀ : 0 ≤ y) (hy : y < 256) : bits .or .u64 (x * 256) y = x * 256 + y :=
  bits_join .u64 64 (by decide) wrp_u64' 8 (x * 256) y (by omega) (by omega) (by omega) hy₀ (by omega) (by omega)
theorem four_any (w : World) (x : Int) : Calls Tryd.prog 34 #[.int .u32 x] w fun e w' => ∃ v, e = .returned v ∧ Bx w w' v (fourL x) := by
  have HF : Hid (Bx w (w.alloc (.cells (bytesV (fourL x)).toArray 5)) (.slice (some ⟨w.heap.size, 0, none⟩) 4 4) (fourL x)) := Lib.hid ⟨Own.lit w 5 (bytesV (fourL x)).toArray (by show 4 ≤ 1000; decide), (Chg.refl w nob).alloc _, fun k hk => by cases hk; exact Nat.le_refl _⟩
  go_enter Tryd.func34, Tryd.ntmps34
  go_wp2
  go_ret
  refine ⟨_, rfl, ?_⟩
  have h := HF.out
  simpa [bytesV, fourL, IntKind.wrap, IntKind.bits, IntKind.signed] using h
theorem u_words : Tryd.prog.underlying 79 = some (.slice 72) := by kernel_rfl
theorem i_word : (Tryd.prog.info? 72).map (fun i => (i.zero, i.size, i.bytes)) = some (some (.int .u32 0), 1, 4) := by kernel_rfl
theorem words_len (l : List Int) : (wordsV l).length = l.length := by simp [wordsV]
theorem words_one' (l : List Int) : ∀ u ∈ wordsV l, u.oneCell' = true := fun u hu => by obtain ⟨x, _, rfl⟩ := List.mem_map.1 hu; rfl
theorem numB_four (l : List Int) (i : Nat) (h : 4 * i + 4 ≤ l.length) : numB ((l.take (4 * i + 4)).drop (4 * i)) = word4 l i := by
  have e : (l.take (4 * i + 4)).drop (4 * i) = [l.getD (4 * i) 0, l.getD (4 * i + 1) 0, l.getD (4 * i + 2) 0, l.getD (4 * i + 3) 0] := by
    apply List.ext_getElem?
    intro k
    by_cases hk : k < 4
    · rw [List.getElem?_drop, List.getElem?_take_of_lt (by omega), List.getElem?_eq_getElem (by omega)]
      rcases (show k = 0 ∨ k = 1 ∨ k = 2 ∨ k = 3 by omega) with rfl | rfl | rfl | rfl
      all_goals simp [List.getD]
      all_goals rw [List.getElem?_eq_getElem (by omega)]
      all_goals rfl
    · rw [List.getElem?_eq_none (by simp; omega), List.getElem?_eq_none (by simp; omega)]
  rw [e]
  simp [numB, word4]
set_option maxHeartbeats 2000000 in
/-- Four bytes as a number. -/
theorem big_any (w : World) (va : Value) (L : List Int) (ha : Rd w 1 va L.length (bytesV L)) (hb : ∀ x ∈ L, 0 ≤ x ∧ x ≤ 255) (hl : L.length = 4) :
    Calls Tryd.prog 32 #[va] w fun e w' => e = .returned (.int .u64 (numB L)) ∧ w' = w := by
  obtain ⟨ao, cap, rfl, hc, hlen⟩ := ha.form
  match L, hl with
  | [p, q, r, s], _ =>
    obtain ⟨g, o, rfl, h0⟩ := ha.cell (j := 0) (u := .int .u8 p) rfl
    obtain ⟨g', o', e', h1⟩ := ha.cell (j := 1) (u := .int .u8 q) rfl
    cases e'
    obtain ⟨g', o', e', h2⟩ := ha.cell (j := 2) (u := .int .u8 r) rfl
    cases e'
    obtain ⟨g', o', e', h3⟩ := ha.cell (j := 3) (u := .int .u8 s) rfl
    cases e'
    rw [Nat.add_zero] at h0
    obtain ⟨p0, p1⟩ := hb p (by simp)
    obtain ⟨q0, q1⟩ := hb q (by simp)
    obtain ⟨r0, r1⟩ := hb r (by simp)
    obtain ⟨s0, s1⟩ := hb s (by simp)
    have HN : Hid (numB [p, q, r, s] = ((p * 256 + q) * 256 + r) * 256 + s) := Lib.hid (by simp [numB])
    have o0 : bits .or .u64 0 p = p := by have h := u64_or8 0 p (by omega) (by omega) p0 (by omega); simpa using h
    have o1 := u64_or8 p q p0 (by omega) q0 (by omega)
    have o2 := u64_or8 (p * 256 + q) r (by omega) (by omega) r0 (by omega)
    have o3 := u64_or8 ((p * 256 + q) * 256 + r) s (by omega) (by omega) s0 (by omega)
    clear ha hb hlen hc
    go_enter Tryd.func32, Tryd.ntmps32
    go_wp2_with fail
    go_rounds 5
    go_ret
    refine ⟨?_, rfl⟩
    show Ending.returned (Value.int .u64 _) = _
    rw [HN.out]
end Go.Proofs.YtcgdmidjejmjhaaDoor
