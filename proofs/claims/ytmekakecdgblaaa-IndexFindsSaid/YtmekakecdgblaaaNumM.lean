
/-
  Numbers and texts read, in plain Lean: what was written comes back, and what is read was so written.
-/
import Derived.Test.YtmekakecdgblaaaGet
import Derived.Test.YtmekakecdgblaaaBx
namespace Go.Proofs.Ytmekakecdgblaaa
open Go.RowKit
set_option linter.unusedVariables false
set_option linter.unusedSimpArgs false

def u64N (n : Int) : Nat := (IntKind.u64.wrap n).toNat
theorem u64N_lt (n : Int) : u64N n < 18446744073709551616 := by simp only [u64N, IntKind.wrap, IntKind.bits, IntKind.signed]; simp; omega
theorem u64N_int (n : Int) : IntKind.u64.wrap n = (u64N n : Int) := by simp only [u64N, IntKind.wrap, IntKind.bits, IntKind.signed]; simp; omega
theorem u64N_nat (n : Nat) (h : n < 18446744073709551616) : (u64N (n : Int) : Int) = n := by simp only [u64N, IntKind.wrap, IntKind.bits, IntKind.signed]; simp; omega
theorem u64N_toNat {n : Int} (h : 0 ≤ n) (h2 : n < 9223372036854775808) : u64N n = n.toNat := by simp only [u64N, IntKind.wrap, IntKind.bits, IntKind.signed]; simp; omega
/-- A number up to a greatest one, and what is left. -/
def numM (most : Nat) (l : List Int) : Option (Nat × List Int) :=
  if (numP l).1 = 0 ∧ (numP l).2.1 ≤ most then some ((numP l).2.1, l.drop (numP l).2.2) else none
theorem numM_var {most n : Nat} (h : n < 18446744073709551616) (hm : n ≤ most) (rest : List Int) : numM most (varL n ++ rest) = some (n, rest) := by
  unfold numM
  rw [numP_var h, if_pos ⟨rfl, hm⟩]
  simp
theorem numM_back {most n : Nat} {l r : List Int} (hb : ∀ x ∈ l, 0 ≤ x ∧ x ≤ 255) (h : numM most l = some (n, r)) : l = varL n ++ r ∧ n ≤ most ∧ n < 18446744073709551616 := by
  unfold numM at h
  split at h
  · rename_i hc
    simp only [Option.some.injEq, Prod.mk.injEq] at h
    obtain ⟨rfl, rfl⟩ := h
    obtain ⟨h1, h2, h3⟩ := numP_back (v := (numP l).2.1) (k := (numP l).2.2) hb (by rw [← hc.1])
    exact ⟨h2, hc.2, h1⟩
  · cases h
theorem numM_less {m m' : Nat} (l : List Int) (h : m ≤ m') : numM m l = (numM m' l).bind fun x => if x.1 ≤ m then some x else none := by
  unfold numM
  by_cases h1 : (numP l).1 = 0
  · by_cases h2 : (numP l).2.1 ≤ m
    · simp [h1, h2, Nat.le_trans h2 h]
    · by_cases h3 : (numP l).2.1 ≤ m'
      · simp [h1, h2, h3]
      · simp [h1, h2, h3]
  · simp [h1]
theorem numM_le {most : Nat} {l : List Int} {x : Nat × List Int} (h : numM most l = some x) : x.1 ≤ most := by
  unfold numM at h
  split at h
  · rename_i hc
    cases h
    exact hc.2
  · cases h
def textQ (tm : Nat) (l : List Int) : Option (ByteArray × List Int) :=
  (numM tm l).bind fun n => if n.1 ≤ n.2.length then some (strOfNums (n.2.take n.1), n.2.drop n.1) else none
theorem textQ_there {tm : Nat} {t : ByteArray} (h : t.size ≤ tm) (h2 : t.size < 18446744073709551616) (rest : List Int) : textQ tm (varL t.size ++ (numsS t ++ rest)) = some (t, rest) := by
  unfold textQ
  rw [numM_var h2 h, Option.bind_some, if_pos (by simp [numsS_len])]
  simp only
  rw [List.take_append_of_le_length (by rw [numsS_len]; exact Nat.le_refl _), List.drop_append_of_le_length (by rw [numsS_len]; exact Nat.le_refl _), ← numsS_len, List.take_length, List.drop_length, str_numsS]
  rfl
theorem nums_str {xs : List Int} (hx : ∀ x ∈ xs, 0 ≤ x ∧ x ≤ 255) : numsS (strOfNums xs) = xs := by
  simp only [numsS, strOfNums, List.map_map]
  conv => rhs; rw [← List.map_id xs]
  refine List.map_congr_left fun x hx' => ?_
  have h := hx x hx'
  simp
  omega
theorem textQ_back {tm : Nat} {t : ByteArray} {l r : List Int} (hb : ∀ x ∈ l, 0 ≤ x ∧ x ≤ 255) (h : textQ tm l = some (t, r)) : l = varL t.size ++ (numsS t ++ r) ∧ t.size ≤ tm ∧ t.size < 18446744073709551616 := by
  unfold textQ at h
  obtain ⟨⟨n, l1⟩, h1, h2⟩ := Option.bind_eq_some_iff.1 h
  obtain ⟨e1, e2, e3⟩ := numM_back hb h1
  simp only at h2
  split at h2
  · rename_i hn
    simp only [Option.some.injEq, Prod.mk.injEq] at h2
    obtain ⟨rfl, rfl⟩ := h2
    have hb1 : ∀ x ∈ l1.take n, 0 ≤ x ∧ x ≤ 255 := fun x hx => hb x (by rw [e1]; exact List.mem_append_right _ (List.mem_of_mem_take hx))
    have hs : (strOfNums (l1.take n)).size = n := by rw [← numsS_len, nums_str hb1, List.length_take]; omega
    rw [hs, nums_str hb1, List.take_append_drop]
    exact ⟨e1, e2, e3⟩
  · cases h2
end Go.Proofs.Ytmekakecdgblaaa
