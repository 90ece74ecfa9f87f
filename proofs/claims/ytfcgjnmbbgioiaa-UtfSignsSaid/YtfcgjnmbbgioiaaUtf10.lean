/-
  Chapter 3: the order of signs and the order of their bytes (plain).
-/
import Derived.Test.YtfcgjnmbbgioiaaUtf8
namespace Go.Proofs.Ytfcgjnmbbgioiaa
open Go.RowKit
set_option linter.unusedVariables false
set_option linter.unusedSimpArgs false

/-- The order of lists of bytes. -/
def lexI : List Int → List Int → Bool
  | _, [] => false
  | [], _ :: _ => true
  | a :: x, b :: y => decide (a < b) || (decide (a = b) && lexI x y)
theorem bytesLess_nums : ∀ (xs ys : List Int), (∀ x ∈ xs, 0 ≤ x ∧ x ≤ 255) → (∀ x ∈ ys, 0 ≤ x ∧ x ≤ 255) → Op.bytesLess (xs.map fun n => UInt8.ofNat n.toNat) (ys.map fun n => UInt8.ofNat n.toNat) = lexI xs ys
  | xs, [], _, _ => by cases xs <;> rfl
  | [], y :: ys, _, _ => rfl
  | x :: xs, y :: ys, hx, hy => by
    have b1 := hx x (by simp)
    have b2 := hy y (by simp)
    have ih := bytesLess_nums xs ys (fun z hz => hx z (by simp [hz])) (fun z hz => hy z (by simp [hz]))
    simp only [List.map_cons, Op.bytesLess, lexI]
    rw [ih]
    have h1 : (decide (UInt8.ofNat x.toNat < UInt8.ofNat y.toNat)) = decide (x < y) := by
      rw [Bool.eq_iff_iff]
      simp only [decide_eq_true_eq, UInt8.lt_iff_toNat_lt, UInt8.toNat_ofNat']
      omega
    have h2 : (UInt8.ofNat x.toNat == UInt8.ofNat y.toNat) = decide (x = y) := by
      rw [Bool.eq_iff_iff]
      simp only [beq_iff_eq, decide_eq_true_eq, ← UInt8.toNat_inj, UInt8.toNat_ofNat']
      omega
    rw [h1, h2]
theorem str_less {xs ys : List Int} (hx : ∀ x ∈ xs, 0 ≤ x ∧ x ≤ 255) (hy : ∀ x ∈ ys, 0 ≤ x ∧ x ≤ 255) : Op.bytesLess (strOfNums xs).toList (strOfNums ys).toList = lexI xs ys := by
  rw [ByteArray.toList_eq, ByteArray.toList_eq, strOfNums_data, strOfNums_data]
  exact bytesLess_nums xs ys hx hy
theorem lexI_first {a b : Int} {x y : List Int} (h : a < b) : lexI (a :: x) (b :: y) = true := by simp [lexI, h]
theorem lexI_gone {a b : Int} {x y : List Int} (h : b < a) : lexI (a :: x) (b :: y) = false := by simp [lexI, show ¬ a < b by omega, show ¬ a = b by omega]
theorem lexI_same {a : Int} {x y : List Int} : lexI (a :: x) (a :: y) = lexI x y := by simp [lexI]
theorem lexI_refl (x : List Int) : lexI x x = false := by
  induction x with
  | nil => rfl
  | cons a t ih => rw [lexI_same, ih]
theorem enc_less {a b : Int} (ha : 0 ≤ a ∧ a ≤ 1114111) (hb : 0 ≤ b ∧ b ≤ 1114111) (h : a < b) : lexI (encS a) (encS b) = true ∧ lexI (encS b) (encS a) = false := by
  by_cases a1 : a < 128
  · have ea : encS a = [a] := by unfold encS; rw [if_pos a1]
    rw [ea]
    unfold encS
    (repeat' split)
    all_goals exact ⟨lexI_first (by omega), lexI_gone (by omega)⟩
  by_cases a2 : a < 2048
  · have ea : encS a = [192 + a / 64, 128 + a % 64] := by unfold encS; rw [if_neg a1, if_pos a2]
    rw [ea]
    unfold encS
    split
    · omega
    split
    · by_cases e : a / 64 = b / 64
      · rw [e, lexI_same, lexI_same]; exact ⟨lexI_first (by omega), lexI_gone (by omega)⟩
      · exact ⟨lexI_first (by omega), lexI_gone (by omega)⟩
    split
    all_goals exact ⟨lexI_first (by omega), lexI_gone (by omega)⟩
  by_cases a3 : a < 65536
  · have ea : encS a = [224 + a / 4096, 128 + a / 64 % 64, 128 + a % 64] := by unfold encS; rw [if_neg a1, if_neg a2, if_pos a3]
    rw [ea]
    unfold encS
    split
    · omega
    split
    · omega
    split
    · by_cases e : a / 4096 = b / 4096
      · rw [e, lexI_same, lexI_same]
        by_cases e2 : a / 64 % 64 = b / 64 % 64
        · rw [e2, lexI_same, lexI_same]; exact ⟨lexI_first (by omega), lexI_gone (by omega)⟩
        · exact ⟨lexI_first (by omega), lexI_gone (by omega)⟩
      · exact ⟨lexI_first (by omega), lexI_gone (by omega)⟩
    · exact ⟨lexI_first (by omega), lexI_gone (by omega)⟩
  · have ea : encS a = [240 + a / 262144, 128 + a / 4096 % 64, 128 + a / 64 % 64, 128 + a % 64] := by unfold encS; rw [if_neg a1, if_neg a2, if_neg a3]
    have eb : encS b = [240 + b / 262144, 128 + b / 4096 % 64, 128 + b / 64 % 64, 128 + b % 64] := by unfold encS; rw [if_neg (by omega), if_neg (by omega), if_neg (by omega)]
    rw [ea, eb]
    by_cases e : a / 262144 = b / 262144
    · rw [e, lexI_same, lexI_same]
      by_cases e2 : a / 4096 % 64 = b / 4096 % 64
      · rw [e2, lexI_same, lexI_same]
        by_cases e3 : a / 64 % 64 = b / 64 % 64
        · rw [e3, lexI_same, lexI_same]; exact ⟨lexI_first (by omega), lexI_gone (by omega)⟩
        · exact ⟨lexI_first (by omega), lexI_gone (by omega)⟩
      · exact ⟨lexI_first (by omega), lexI_gone (by omega)⟩
    · exact ⟨lexI_first (by omega), lexI_gone (by omega)⟩
theorem encS_inj {a b : Int} (ha : isSign a = true) (hb : isSign b = true) (h : encS a = encS b) : a = b := by
  have h1 := run_enc ha
  rw [h, run_enc hb] at h1
  simpa using h1.symm
theorem encS_prefix {a b : Int} (ha : isSign a = true) (hb : isSign b = true) (hl : (encS a).length < (encS b).length) : (encS b).take (encS a).length ≠ encS a := by
  intro h
  have h1 := run_cut hb hl
  rw [h, run_enc ha] at h1
  simp at h1
theorem str_extract (xs : List Int) (n : Nat) : (strOfNums xs).extract 0 n = strOfNums (xs.take n) := by
  apply ByteArray.ext
  simp [strOfNums, List.map_take]
def cntN (a : Int) (k : Nat) : Nat := 1 + (if 1 ≤ k ∧ 128 ≤ a then 1 else 0) + (if 2 ≤ k ∧ 2048 ≤ a then 1 else 0) + (if 3 ≤ k ∧ 65536 ≤ a then 1 else 0)
theorem cnt_len {a : Int} : (encS a).length = cntN a 3 := by
  unfold encS cntN; (repeat' split) <;> simp_all <;> omega
theorem cnt_size {a : Int} (h : isSign a = true) : sizeR a = cntN a 3 := by rw [← cnt_len, encS_len h]

/-- All that the law asks of two signs' strings. -/
structure Pair (a b : Int) (X Y : ByteArray) : Prop where
  size : (X.size : Int) = cntN a 3
  less : Op.bytesLess X.toList Y.toList = decide (a < b)
  same : (X.toList == Y.toList) = decide (a = b)
  front : X.size < Y.size → ((Y.extract 0 X.size).toList != X.toList) = true
theorem pair_of {a b : Int} (ha : isSign a = true) (hb : isSign b = true) : Pair a b (strOfNums (encS a)) (strOfNums (encS b)) where
  size := by rw [strOfNums_size, cnt_len]
  less := by
    rw [str_less (encS_byte ha) (encS_byte hb)]
    have b1 := isSign_b ha
    have b2 := isSign_b hb
    rcases Int.lt_trichotomy a b with h | h | h
    · rw [(enc_less (by omega) (by omega) h).1]; simp [h]
    · subst h; rw [lexI_refl]; simp
    · rw [(enc_less (by omega) (by omega) h).2]; simp; omega
  same := by
    rw [Bool.eq_iff_iff]
    simp only [beq_iff_eq, decide_eq_true_eq]
    refine ⟨fun h => encS_inj ha hb (strOfNums_inj (encS_byte ha) (encS_byte hb) (toList_inj h)), fun h => by rw [h]⟩
  front := fun h => by
    rw [strOfNums_size, strOfNums_size] at h
    rw [str_extract, strOfNums_size]
    rw [bne_iff_ne]
    intro e
    exact encS_prefix ha hb h (strOfNums_inj (fun x hx => encS_byte hb x (List.mem_of_mem_take hx)) (encS_byte ha) (toList_inj e))
end Go.Proofs.Ytfcgjnmbbgioiaa
