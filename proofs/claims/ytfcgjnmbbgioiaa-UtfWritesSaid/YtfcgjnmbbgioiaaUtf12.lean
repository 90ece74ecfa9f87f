/-
  Chapter 3: the reference's loop, as steps of runD (plain).
-/
import Derived.Test.YtfcgjnmbbgioiaaUtf8
namespace Go.Proofs.Ytfcgjnmbbgioiaa
open Go.RowKit
set_option linter.unusedVariables false
set_option linter.unusedSimpArgs false

/-- What front tells: k bytes that begin a sign of n bytes (0: none begins so). -/
def Front (R : List Int) (k n : Nat) : Prop :=
  (n : Int) = lenB (R.headD 0) ∧ 1 ≤ k ∧ k ≤ R.length ∧ ((n = 0 ∧ k = 1) ∨ (k ≤ n ∧ (∀ j, 0 < j → j < k → folB (R.headD 0) (R.getD j 0) j = true) ∧ (k = n ∨ k = R.length ∨ folB (R.headD 0) (R.getD k 0) k = false)))

theorem last_split {t : List Int} {m : Nat} (h : t.length = m + 1) : t = t.take m ++ [t.getD m 0] := by
  rw [← take_snoc (by omega) 0, List.take_of_length_le (by omega)]
theorem run_begin {a : Int} {n : Nat} (hn : (n : Int) = lenB a) : ∀ (m : Nat) (t : List Int), t.length = m → m + 1 < n → (∀ j, j < m → folB a (t.getD j 0) (j + 1 : Nat) = true) → runD [] (a :: t) = (a :: t, [])
  | 0, t, ht, h, _ => by
    obtain rfl := List.length_eq_zero_iff.1 ht
    simp [runD, tk1m (show 2 ≤ lenB a by omega)]
  | m + 1, t, ht, h, hf => by
    have h1 := run_begin hn m (t.take m) (by simp; omega) (by omega) (fun j hj => by have := hf j (by omega); simpa [List.getD, List.getElem?_take_of_lt hj] using this)
    have h2 := hf m (by omega)
    have hl : (t.take m).length = m := by simp; omega
    have hs := last_split ht
    generalize t.getD m 0 = c at *
    generalize t.take m = u at *
    subst hs
    rw [← List.cons_append, runD_append, h1]
    have h3 : takeD (a :: u) c = (a :: u ++ [c], []) := by
      unfold takeD
      rw [if_neg (by rintro ⟨-, h⟩; simp [hl] at h; rw [show ((m : Int) + 1) = ((m + 1 : Nat) : Int) by omega, h2] at h; cases h)]
      unfold takeF
      rw [if_neg (by simp; omega), if_neg (by simp; omega)]
    simp [runD, h3]
theorem run_whole {a : Int} {n : Nat} (hn : (n : Int) = lenB a) : ∀ (m : Nat) (t : List Int), t.length = m → m + 1 = n → (∀ j, j < m → folB a (t.getD j 0) (j + 1 : Nat) = true) → runD [] (a :: t) = ([], [signR (a :: t)])
  | 0, t, ht, h, _ => by
    obtain rfl := List.length_eq_zero_iff.1 ht
    have hl : lenB a = 1 := by omega
    simp [runD, tk1 hl, signR]
  | m + 1, t, ht, h, hf => by
    have h1 := run_begin hn m (t.take m) (by simp; omega) (by omega) (fun j hj => by have := hf j (by omega); simpa [List.getD, List.getElem?_take_of_lt hj] using this)
    have h2 := hf m (by omega)
    have hl : (t.take m).length = m := by simp; omega
    have hs := last_split ht
    generalize t.getD m 0 = c at *
    generalize t.take m = u at *
    subst hs
    rw [← List.cons_append, runD_append, h1]
    have h3 : takeD (a :: u) c = ([], [signR (a :: u ++ [c])]) := by
      unfold takeD
      rw [if_neg (by rintro ⟨-, h⟩; simp [hl] at h; rw [show ((m : Int) + 1) = ((m + 1 : Nat) : Int) by omega, h2] at h; cases h)]
      unfold takeF
      rw [if_neg (by simp; omega), if_pos (by simp; omega)]
    simp [runD, h3]
theorem front_split {R : List Int} {k n : Nat} (h : Front R k n) : ∃ a t, R.take k = a :: t ∧ R.headD 0 = a ∧ t.length + 1 = k ∧ R = (a :: t) ++ R.drop k ∧ ∀ j, j < t.length → t.getD j 0 = R.getD (j + 1) 0 := by
  obtain ⟨h1, h2, h3, h4⟩ := h
  cases R with
  | nil => simp at h3; omega
  | cons a r =>
    obtain ⟨q, rfl⟩ : ∃ q, k = q + 1 := ⟨k - 1, by omega⟩
    simp at h3
    refine ⟨a, r.take q, by simp, rfl, by simp; omega, by simp, fun j hj => ?_⟩
    simp at hj
    simp [List.getD, List.getElem?_take_of_lt (show j < q by omega)]
/-- A whole sign at the front. -/
theorem front_whole {R : List Int} {k : Nat} (h : Front R k k) : runD [] R = ((runD [] (R.drop k)).1, signR (R.take k) :: (runD [] (R.drop k)).2) := by
  obtain ⟨a, t, e1, e2, e3, e4, e5⟩ := front_split h
  obtain ⟨h1, h2, h3, h4⟩ := h
  rw [e2] at h1 h4
  rcases h4 with ⟨h4, _⟩ | ⟨h4, h5, _⟩
  · omega
  have hw := run_whole h1 _ t rfl (by omega) (fun j hj => by rw [e5 j hj]; exact h5 (j + 1) (by omega) (by omega))
  conv => lhs; rw [e4]
  rw [runD_append, hw, e1]
  rfl
/-- All that is left begins a sign. -/
theorem front_waits {R : List Int} {n : Nat} (h : Front R R.length n) (hn : 0 < n) (hk : R.length ≠ n) : runD [] R = (R, []) := by
  obtain ⟨a, t, e1, e2, e3, e4, e5⟩ := front_split h
  obtain ⟨h1, h2, h3, h4⟩ := h
  rw [e2] at h1 h4
  rw [List.take_length] at e1
  rcases h4 with ⟨h4, _⟩ | ⟨h4, h5, _⟩
  · omega
  have hw := run_begin h1 _ t rfl (by omega) (fun j hj => by rw [e5 j hj]; exact h5 (j + 1) (by omega) (by omega))
  rw [e1, hw]
/-- What begins no sign. -/
theorem front_bad {R : List Int} {k n : Nat} (h : Front R k n) (hk : k ≠ n) (hw : n = 0 ∨ k ≠ R.length) : runD [] R = ((runD [] (R.drop k)).1, 65533 :: (runD [] (R.drop k)).2) := by
  obtain ⟨a, t, e1, e2, e3, e4, e5⟩ := front_split h
  obtain ⟨h1, h2, h3, h4⟩ := h
  rw [e2] at h1 h4
  rcases h4 with ⟨h4, h5⟩ | ⟨h4, h5, h6⟩
  · subst h4 h5
    have ht : t = [] := List.length_eq_zero_iff.1 (by omega)
    subst ht
    have hl : lenB a = 0 := by simpa using h1.symm
    conv => lhs; rw [e4]
    have hr : runD [] [a] = ([], [65533]) := by simp [runD, takeD, takeF, hl]
    rw [runD_append, hr]
    rfl
  · have hkn : k < n := by omega
    have hkr : k ≠ R.length := by rcases hw with h | h <;> omega
    have hf : folB a (R.getD k 0) k = false := by rcases h6 with h | h | h <;> first | omega | exact h
    have hb := run_begin h1 _ t rfl (by omega) (fun j hj => by rw [e5 j hj]; exact h5 (j + 1) (by omega) (by omega))
    have hd : R.drop k = R.getD k 0 :: R.drop (k + 1) := by
      have hlt : k < R.length := by omega
      rw [List.drop_eq_getElem_cons hlt]
      simp [List.getD, hlt]
    conv => lhs; rw [e4]
    rw [runD_append, hb, hd]
    generalize R.getD k 0 = c at *
    have ht1 : takeD (a :: t) c = ((takeF [] c).1, 65533 :: (takeF [] c).2) := by
      unfold takeD
      rw [if_pos ⟨by simp, by simpa [e3] using hf⟩]
    have ht2 : takeD [] c = takeF [] c := by unfold takeD; rw [if_neg (by simp)]
    simp [runD, ht1, ht2]
end Go.Proofs.Ytfcgjnmbbgioiaa
