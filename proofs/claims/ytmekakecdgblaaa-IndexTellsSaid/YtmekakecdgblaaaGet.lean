
/-
  Numbers read from the front, in plain Lean: what was written comes back, and what is read was so written.
-/
import Derived.Test.YtmekakecdgblaaaVar
namespace Go.Proofs.Ytmekakecdgblaaa
set_option linter.unusedVariables false
set_option linter.unusedSimpArgs false

/-- The number at the front (why not, the number, how many bytes it took): i bytes of it are read, they make acc. -/
def numG : Nat → Nat → Nat → List Int → Int × Nat × Nat
  | 0, _, _, _ => (2, 0, 0)
  | _ + 1, _, _, [] => (3, 0, 0)
  | f + 1, i, acc, c :: r => if (i = 9 ∧ 1 < c) ∨ (c = 0 ∧ 0 < i) then (2, 0, 0) else if c < 128 then (0, acc + c.toNat * 2 ^ (7 * i), i + 1) else numG f (i + 1) (acc + (c.toNat - 128) * 2 ^ (7 * i)) r
def numP (l : List Int) : Int × Nat × Nat := numG 10 0 0 l
theorem varL_pos' (n : Nat) : 1 ≤ (varL n).length := by
  rw [varL]
  split <;> simp
theorem numG_var : ∀ (f i acc n : Nat) (rest : List Int), f + i = 10 → n < 2 ^ (64 - 7 * i) → (0 < i → 0 < n) → i ≤ 9 → numG f i acc (varL n ++ rest) = (0, acc + n * 2 ^ (7 * i), i + (varL n).length) := by
  intro f
  induction f with
  | zero => intro i acc n rest h1 h2 h3 h4; omega
  | succ f ih =>
    intro i acc n rest h1 h2 h3 h4
    by_cases hn : n < 128
    · rw [varL_lt hn]
      simp only [List.cons_append, List.nil_append, numG, List.length_singleton]
      rw [if_neg, if_pos (by omega)]
      · simp
      · rintro (⟨rfl, h⟩ | ⟨h, h'⟩)
        · have : n < 2 := by simpa using h2
          omega
        · have := h3 h'
          omega
    · have hi : i ≤ 8 := by
        by_cases h9 : i = 9
        · subst h9
          have : n < 2 := by simpa using h2
          omega
        · omega
      rw [varL_ge hn]
      simp only [List.cons_append, numG, List.length_cons]
      rw [if_neg (by omega), if_neg (by omega), ih (i + 1) _ (n / 128) rest (by omega) ?_ (by omega) (by omega)]
      · have e : (128 + ((n % 128 : Nat) : Int)).toNat - 128 = n % 128 := by omega
        have h7 : 2 ^ (7 * (i + 1)) = 128 * 2 ^ (7 * i) := by rw [show 7 * (i + 1) = 7 + 7 * i by omega, Nat.pow_add]
        have e2 : (n % 128) * 2 ^ (7 * i) + n / 128 * (128 * 2 ^ (7 * i)) = n * 2 ^ (7 * i) := by
          rw [← Nat.mul_assoc, ← Nat.add_mul, show n % 128 + n / 128 * 128 = n by omega]
        rw [e, h7, Nat.add_assoc, e2, show i + 1 + (varL (n / 128)).length = i + ((varL (n / 128)).length + 1) by omega]
      · have h7 : 2 ^ (64 - 7 * i) = 128 * 2 ^ (64 - 7 * (i + 1)) := by rw [show 64 - 7 * i = 7 + (64 - 7 * (i + 1)) by omega, Nat.pow_add]
        rw [h7] at h2
        omega
/-- What was written comes back. -/
theorem numP_var {n : Nat} (h : n < 18446744073709551616) (rest : List Int) : numP (varL n ++ rest) = (0, n, (varL n).length) := by
  have h1 := numG_var 10 0 0 n rest rfl (by simpa using h) (by omega) (by omega)
  simpa [numP] using h1
theorem numG_back : ∀ (f i acc : Nat) (l : List Int) (v k : Nat), f + i = 10 → (∀ x ∈ l, 0 ≤ x ∧ x ≤ 255) → numG f i acc l = (0, v, k) → ∃ n, v = acc + n * 2 ^ (7 * i) ∧ n < 2 ^ (64 - 7 * i) ∧ (0 < i → 0 < n) ∧ l = varL n ++ l.drop (k - i) ∧ k = i + (varL n).length := by
  intro f
  induction f with
  | zero => intro i acc l v k h1 hb h; simp [numG] at h
  | succ f ih =>
    intro i acc l v k h1 hb h
    cases l with
    | nil => simp [numG] at h
    | cons c r =>
      have hc := hb c (List.mem_cons_self ..)
      simp only [numG] at h
      split at h
      · simp at h
      · rename_i hbad
        split at h
        · rename_i hs
          simp only [Prod.mk.injEq, true_and] at h
          obtain ⟨rfl, rfl⟩ := h
          have hlt : c.toNat < 128 := by omega
          refine ⟨c.toNat, rfl, ?_, by omega, ?_, ?_⟩
          · by_cases h9 : i = 9
            · subst h9
              have : c ≤ 1 := by omega
              simp
              omega
            · have : 2 ^ 7 ≤ 2 ^ (64 - 7 * i) := Nat.pow_le_pow_right (by decide) (by omega)
              omega
          · rw [varL_lt hlt, Nat.add_sub_cancel_left]
            simp
            omega
          · rw [varL_lt hlt]; rfl
        · rename_i hs
          have hi : i ≤ 8 := by omega
          obtain ⟨n, h2, h3, h4, h5, h6⟩ := ih (i + 1) _ r v k (by omega) (fun x hx => hb x (List.mem_cons_of_mem _ hx)) h
          have hn := h4 (by omega)
          have hbig : ¬ (c.toNat - 128) + 128 * n < 128 := by omega
          have h7 : 2 ^ (64 - 7 * i) = 128 * 2 ^ (64 - 7 * (i + 1)) := by rw [show 64 - 7 * i = 7 + (64 - 7 * (i + 1)) by omega, Nat.pow_add]
          have h8 : 2 ^ (7 * (i + 1)) = 128 * 2 ^ (7 * i) := by rw [show 7 * (i + 1) = 7 + 7 * i by omega, Nat.pow_add]
          have em : ((c.toNat - 128) + 128 * n) % 128 = c.toNat - 128 := by omega
          have ed : ((c.toNat - 128) + 128 * n) / 128 = n := by omega
          have hv : varL ((c.toNat - 128) + 128 * n) = c :: varL n := by
            rw [varL_ge hbig, em, ed]
            congr 1
            omega
          refine ⟨(c.toNat - 128) + 128 * n, ?_, by rw [h7]; omega, by omega, ?_, by rw [hv, h6]; simp; omega⟩
          · rw [h2, h8, Nat.add_mul, ← Nat.add_assoc, Nat.mul_comm 128 n, Nat.mul_assoc]
          · rw [hv]
            have hk : k - i = (k - (i + 1)) + 1 := by have := varL_pos' n; omega
            rw [hk, List.drop_succ_cons, List.cons_append, ← h5]
/-- What is read was so written. -/
theorem numP_back {l : List Int} {v k : Nat} (hb : ∀ x ∈ l, 0 ≤ x ∧ x ≤ 255) (h : numP l = (0, v, k)) : v < 18446744073709551616 ∧ l = varL v ++ l.drop k ∧ k = (varL v).length := by
  obtain ⟨n, h1, h2, _, h4, h5⟩ := numG_back 10 0 0 l v k rfl hb h
  obtain rfl : v = n := by simpa using h1
  exact ⟨by simpa using h2, by simpa using h4, by simpa using h5⟩
theorem numG_err : ∀ (f i acc : Nat) (l : List Int), (numG f i acc l).1 = 0 ∨ (numG f i acc l).1 = 2 ∨ (numG f i acc l).1 = 3
  | 0, _, _, _ => .inr (.inl rfl)
  | f + 1, i, acc, [] => .inr (.inr rfl)
  | f + 1, i, acc, c :: r => by
    simp only [numG]
    split
    · exact .inr (.inl rfl)
    · split
      · exact .inl rfl
      · exact numG_err f _ _ r
theorem numG_max : ∀ (f i acc : Nat) (l : List Int), i ≤ (numG f i acc l).2.2 ∧ (numG f i acc l).2.2 ≤ i + l.length ∨ (numG f i acc l).2.2 = 0
  | 0, _, _, _ => .inr rfl
  | f + 1, i, acc, [] => .inr rfl
  | f + 1, i, acc, c :: r => by
    simp only [numG]
    split
    · exact .inr rfl
    · split
      · exact .inl ⟨by simp, by simp⟩
      · rcases numG_max f (i + 1) (acc + (c.toNat - 128) * 2 ^ (7 * i)) r with h | h
        · exact .inl ⟨by omega, by simp; omega⟩
        · exact .inr h
end Go.Proofs.Ytmekakecdgblaaa
