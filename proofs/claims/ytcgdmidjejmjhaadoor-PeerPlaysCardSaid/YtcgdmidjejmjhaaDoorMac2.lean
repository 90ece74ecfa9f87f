
/-
  Package mac: the words of a block's rounds.
-/
import Derived.Test.YtcgdmidjejmjhaaDoorMac
namespace Go.Proofs.YtcgdmidjejmjhaaDoor
open Go.RowKit
set_option linter.unusedVariables false
set_option linter.unusedSimpArgs false

theorem wrp_u32 (n : Int) (h₀ : 0 ≤ n) (h₁ : n < 2 ^ 32) : IntKind.u32.wrap n = n := by
  simp only [IntKind.wrap, IntKind.bits, IntKind.signed]; simp; omega
theorem u32_or8 (x y : Int) (hx₀ : 0 ≤ x) (hx₁ : x < 16777216) (hy₀ : 0 ≤ y) (hy : y < 256) : bits .or .u32 (x * 256) y = x * 256 + y :=
  bits_join .u32 32 (by decide) wrp_u32 8 (x * 256) y (by omega) (by omega) (by omega) hy₀ (by omega) (by omega)
/-- A number of bytes, the greatest first. -/
def numB (l : List Int) : Int := l.foldl (fun a c => a * 256 + c) 0
theorem numB_snoc (l : List Int) (c : Int) : numB (l ++ [c]) = numB l * 256 + c := by simp [numB]
theorem numB_b : ∀ (k : Nat) (l : List Int), l.length = k → (∀ x ∈ l, 0 ≤ x ∧ x ≤ 255) → 0 ≤ numB l ∧ numB l < 256 ^ k
  | 0, l, h, _ => by
    obtain rfl := List.length_eq_zero_iff.1 h
    simp [numB]
  | k + 1, l, h, hb => by
    obtain ⟨m, c, rfl⟩ : ∃ m c, l = m ++ [c] := ⟨l.dropLast, l.getLast (by intro e; rw [e] at h; simp at h), (List.dropLast_concat_getLast _).symm⟩
    have hm : m.length = k := by simpa using h
    obtain ⟨h1, h2⟩ := numB_b k m hm (fun x hx => hb x (by simp [hx]))
    obtain ⟨h3, h4⟩ := hb c (by simp)
    rw [numB_snoc, Int.pow_succ]
    omega
/-- Word j behind i bytes. -/
def pw (l : List Int) (i j : Nat) : Int := numB (((l.take i).drop (4 * j)).take 4)
theorem pw_other {l : List Int} {i j : Nat} (h : j ≠ i / 4) : pw l (i + 1) j = pw l i j := by
  unfold pw
  congr 1
  apply List.ext_getElem?
  intro k
  by_cases hk : k < 4
  · rw [List.getElem?_take_of_lt hk, List.getElem?_take_of_lt hk, List.getElem?_drop, List.getElem?_drop, List.getElem?_take, List.getElem?_take]
    by_cases h1 : 4 * j + k < i
    · rw [if_pos h1, if_pos (by omega)]
    · rw [if_neg h1, if_neg (by omega)]
  · rw [List.getElem?_eq_none (by simp; omega), List.getElem?_eq_none (by simp; omega)]
theorem pw_step {l : List Int} {i : Nat} (h : i < l.length) : pw l (i + 1) (i / 4) = pw l i (i / 4) * 256 + l.getD i 0 := by
  unfold pw
  have e : l.take (i + 1) = l.take i ++ [l.getD i 0] := take_snoc h 0
  have h1 : (l.take i).length = i := by rw [List.length_take]; omega
  rw [e, List.drop_append_of_le_length (by omega), List.take_of_length_le (by simp; omega), List.take_of_length_le (l := (l.take i).drop _) (by simp; omega), numB_snoc]
theorem pw_b {l : List Int} (i : Nat) (hb : ∀ x ∈ l, 0 ≤ x ∧ x ≤ 255) : 0 ≤ pw l i (i / 4) ∧ pw l i (i / 4) < 16777216 := by
  unfold pw
  have hl : (((l.take i).drop (4 * (i / 4))).take 4).length ≤ 3 := by simp; omega
  obtain ⟨h1, h2⟩ := numB_b _ (((l.take i).drop (4 * (i / 4))).take 4) rfl (fun x hx => hb x (List.mem_of_mem_take (List.mem_of_mem_drop (List.mem_of_mem_take hx))))
  refine ⟨h1, Int.lt_of_lt_of_le h2 ?_⟩
  rcases (show _ = 0 ∨ _ = 1 ∨ _ = 2 ∨ _ = 3 from (by omega : (((l.take i).drop (4 * (i / 4))).take 4).length = 0 ∨ (((l.take i).drop (4 * (i / 4))).take 4).length = 1 ∨ (((l.take i).drop (4 * (i / 4))).take 4).length = 2 ∨ (((l.take i).drop (4 * (i / 4))).take 4).length = 3)) with e | e | e | e <;> rw [e] <;> decide
theorem pw_end {l : List Int} (h : l.length = 64) {j : Nat} (hj : j < 16) : pw l 64 j = word4 l j := by
  unfold pw
  rw [List.take_of_length_le (l := l) (by omega)]
  have e : (l.drop (4 * j)).take 4 = [l.getD (4 * j) 0, l.getD (4 * j + 1) 0, l.getD (4 * j + 2) 0, l.getD (4 * j + 3) 0] := by
    apply List.ext_getElem?
    intro k
    by_cases hk : k < 4
    · rw [List.getElem?_take_of_lt hk, List.getElem?_drop, List.getElem?_eq_getElem (by omega)]
      rcases (show k = 0 ∨ k = 1 ∨ k = 2 ∨ k = 3 by omega) with rfl | rfl | rfl | rfl
      all_goals simp [List.getD]
      all_goals rw [List.getElem?_eq_getElem (by omega)]
      all_goals rfl
    · rw [List.getElem?_eq_none (by simp; omega), List.getElem?_eq_none (by simp; omega)]
  rw [e]
  simp [numB, word4]
/-- The words behind i bytes. -/
def pws (l : List Int) (i : Nat) : List Int := (List.range 64).map fun j => if j < 16 then pw l i j else 0
theorem pws_len (l : List Int) (i : Nat) : (pws l i).length = 64 := by simp [pws]
theorem pws_zero (l : List Int) : pws l 0 = List.replicate 64 0 := by
  apply List.ext_getElem?
  intro k
  by_cases hk : k < 64
  · rw [List.getElem?_replicate, if_pos hk]
    simp [pws, hk, pw, numB]
  · rw [List.getElem?_eq_none (by rw [pws_len]; omega), List.getElem?_eq_none (by simp; omega)]
theorem pws_at {l : List Int} {i j : Nat} (hj : j < 16) : (pws l i)[j]? = some (pw l i j) := by simp [pws, hj, show j < 64 by omega]
theorem pws_step {l : List Int} {i : Nat} (h : i < l.length) (h2 : i < 64) : (pws l i).set (i / 4) (pw l i (i / 4) * 256 + l.getD i 0) = pws l (i + 1) := by
  apply List.ext_getElem?
  intro k
  by_cases hk : k = i / 4
  · subst hk
    rw [List.getElem?_set_self (by rw [pws_len]; omega), pws_at (by omega), pw_step h]
  · rw [List.getElem?_set_ne (by omega)]
    by_cases h3 : k < 64
    · simp only [pws, List.getElem?_map, List.getElem?_range h3, Option.map_some]
      rw [pw_other hk]
    · rw [List.getElem?_eq_none (by rw [pws_len]; omega), List.getElem?_eq_none (by rw [pws_len]; omega)]
/-- The words so far, and zeros. -/
def wsofar (W : List Int) : List Int := W ++ List.replicate (64 - W.length) 0
theorem pws_end {l : List Int} (h : l.length = 64) : pws l 64 = wsofar (first16 l) := by
  apply List.ext_getElem?
  intro k
  have h16 : (first16 l).length = 16 := by simp [first16]
  by_cases hk : k < 16
  · rw [pws_at hk, wsofar, List.getElem?_append_left (by omega), pw_end h hk]
    simp [first16, hk]
  · rw [wsofar, List.getElem?_append_right (by omega), h16]
    by_cases h3 : k < 64
    · rw [List.getElem?_replicate, if_pos (by omega)]
      simp [pws, h3, hk]
    · rw [List.getElem?_eq_none (by rw [pws_len]; omega), List.getElem?_eq_none (by simp; omega)]
theorem wsofar_step {W : List Int} (h : W.length < 64) (x : Int) : (wsofar W).set W.length x = wsofar (W ++ [x]) := by
  unfold wsofar
  rw [List.set_append_right _ _ (Nat.le_refl _), Nat.sub_self, show 64 - W.length = (64 - (W ++ [x]).length) + 1 by simp; omega, List.replicate_succ, List.set_cons_zero]
  simp
theorem wsofar_at {W : List Int} {j : Nat} (h : j < W.length) : (wsofar W)[j]? = some (W.getD j 0) := by
  rw [wsofar, List.getElem?_append_left h]; simp [List.getD, h]
theorem wsofar_len {W : List Int} (h : W.length ≤ 64) : (wsofar W).length = 64 := by simp [wsofar]; omega
end Go.Proofs.YtcgdmidjejmjhaaDoor
