
/-
  Chapter 19 in plain Lean: entries as texts, and back.
-/
import Derived.Test.YtmekakecdgblaaaCrcP
import Derived.Test.YtmekakecdgblaaaNumM
namespace Go.Proofs.Ytmekakecdgblaaa
open Go.RowKit
set_option linter.unusedVariables false
set_option linter.unusedSimpArgs false

/-- Where a key lies. -/
structure En where
  q : Nat
  t : Nat
  n : Int
  a : Int
deriving DecidableEq
def En.ok (e : En) : Prop := e.q < 18446744073709551616 ∧ e.t < 18446744073709551616 ∧ (-9223372036854775808 ≤ e.n ∧ e.n ≤ 9223372036854775807) ∧ -9223372036854775808 ≤ e.a ∧ e.a ≤ 9223372036854775807
def textE (e : En) : List Int := varL e.q ++ (varL e.t ++ (varL (u64N e.n) ++ varL (u64N e.a)))
def oneE (e : En) : List Int := fourL (crcL (textE e)) ++ textE e
def encE (l : List En) : List Int := l.flatMap oneE
theorem textE_byte (e : En) : ∀ x ∈ textE e, 0 ≤ x ∧ x ≤ 255 := by
  intro x hx
  unfold textE at hx
  simp only [List.mem_append] at hx
  rcases hx with h | h | h | h <;> exact varL_byte _ x h
theorem textE_len (e : En) (h : e.ok) : (textE e).length ≤ 40 := by
  obtain ⟨h1, h2, _⟩ := h
  unfold textE
  simp only [List.length_append]
  have a1 := varL_len 9 e.q (by omega)
  have a2 := varL_len 9 e.t (by omega)
  have a3 := varL_len 9 (u64N e.n) (by have := u64N_lt e.n; omega)
  have a4 := varL_len 9 (u64N e.a) (by have := u64N_lt e.a; omega)
  omega
theorem oneE_byte (e : En) : ∀ x ∈ oneE e, 0 ≤ x ∧ x ≤ 255 := by
  intro x hx
  rcases List.mem_append.1 hx with h | h
  · exact fourL_byte _ x h
  · exact textE_byte e x h
theorem oneE_len (e : En) (h : e.ok) : (oneE e).length ≤ 44 := by
  have := textE_len e h
  simp only [oneE, List.length_append, fourL, List.length_cons, List.length_nil]
  omega
theorem encE_byte (l : List En) : ∀ x ∈ encE l, 0 ≤ x ∧ x ≤ 255 := by
  intro x hx
  obtain ⟨e, _, h⟩ := List.mem_flatMap.1 hx
  exact oneE_byte e x h
theorem encE_len : ∀ (l : List En), (∀ e ∈ l, e.ok) → (encE l).length ≤ 44 * l.length
  | [], _ => Nat.zero_le _
  | e :: l, h => by
    have h1 := oneE_len e (h e (by simp))
    have h2 := encE_len l (fun x hx => h x (by simp [hx]))
    simp only [encE, List.flatMap_cons, List.length_append, List.length_cons] at h2 ⊢
    omega
theorem encE_snoc (l : List En) (e : En) : encE (l ++ [e]) = encE l ++ oneE e := by simp [encE]
def entQ (l : List Int) : Option (En × List Int) :=
  (numM 18446744073709551615 l).bind fun q => (numM 18446744073709551615 q.2).bind fun t => (numM 2147483647 t.2).bind fun n => (numM 2147483647 n.2).bind fun a => some (⟨q.1, t.1, n.1, a.1⟩, a.2)
def rawE (l : List Int) : Option (En × List Int) := if l.length < 4 then none else entQ (l.drop 4)
def stepE (l : List Int) : Option (En × List Int) := (rawE l).bind fun x => if l.take 4 = fourL (crcL (textE x.1)) then some x else none
def decE : Nat → List Int → List En
  | 0, _ => []
  | f + 1, l => match stepE l with
    | none => []
    | some x => x.1 :: decE f x.2
theorem decE_none {f : Nat} {l : List Int} (h : stepE l = none) : decE f l = [] := by
  cases f with
  | zero => rfl
  | succ f => simp only [decE, h]
theorem decE_some {f : Nat} {l : List Int} {x : En × List Int} (h : stepE l = some x) : decE (f + 1) l = x.1 :: decE f x.2 := by simp only [decE, h]
theorem decE_nil (f : Nat) : decE f [] = [] := decE_none (by rfl)
theorem entQ_ok {l : List Int} {x : En × List Int} (h : entQ l = some x) : x.1.q ≤ 18446744073709551615 ∧ x.1.t ≤ 18446744073709551615 ∧ (0 ≤ x.1.n ∧ x.1.n ≤ 2147483647) ∧ 0 ≤ x.1.a ∧ x.1.a ≤ 2147483647 := by
  unfold entQ at h
  obtain ⟨q, h1, h⟩ := Option.bind_eq_some_iff.1 h
  obtain ⟨t, h2, h⟩ := Option.bind_eq_some_iff.1 h
  obtain ⟨n, h3, h⟩ := Option.bind_eq_some_iff.1 h
  obtain ⟨a, h4, h⟩ := Option.bind_eq_some_iff.1 h
  cases h
  have k1 := numM_le h1
  have k2 := numM_le h2
  have k3 := numM_le h3
  have k4 := numM_le h4
  refine ⟨by simpa using k1, by simpa using k2, ⟨?_, ?_⟩, ?_, ?_⟩ <;> simp <;> omega
/-- An entry that may be read back. -/
def En.small (e : En) : Prop := e.q < 18446744073709551616 ∧ e.t < 18446744073709551616 ∧ (0 ≤ e.n ∧ e.n ≤ 2147483647) ∧ 0 ≤ e.a ∧ e.a ≤ 2147483647
theorem u64N_small {x : Int} (h : 0 ≤ x) (h' : x ≤ 2147483647) : (u64N x : Int) = x ∧ u64N x ≤ 2147483647 := by
  have h1 : IntKind.u64.wrap x = x := by simp only [IntKind.wrap, IntKind.bits, IntKind.signed]; simp; omega
  have h2 := u64N_int x
  rw [h1] at h2
  exact ⟨h2.symm, by omega⟩
theorem entQ_text (e : En) (h : e.small) (r : List Int) : entQ (textE e ++ r) = some (e, r) := by
  obtain ⟨h1, h2, ⟨h3, h4⟩, h5, h6⟩ := h
  obtain ⟨k1, k2⟩ := u64N_small h3 h4
  obtain ⟨k3, k4⟩ := u64N_small h5 h6
  unfold entQ textE
  rw [List.append_assoc, numM_var h1 (by omega), Option.bind_some, List.append_assoc, numM_var h2 (by omega), Option.bind_some, List.append_assoc, numM_var (u64N_lt _) k2, Option.bind_some, numM_var (u64N_lt _) k4, Option.bind_some]
  simp only [k1, k3]
theorem stepE_one (e : En) (h : e.small) (r : List Int) : stepE (oneE e ++ r) = some (e, r) := by
  have h1 : ¬ (oneE e ++ r).length < 4 := by simp [oneE, fourL]
  have h2 : (oneE e ++ r).drop 4 = textE e ++ r := by simp [oneE, fourL]
  have h3 : (oneE e ++ r).take 4 = fourL (crcL (textE e)) := by simp [oneE, fourL]
  unfold stepE rawE
  rw [if_neg h1, h2, entQ_text e h r, Option.bind_some, if_pos h3]
theorem decE_there : ∀ (l : List En) (f : Nat) (r : List Int), (∀ e ∈ l, e.small) → decE (l.length + f) (encE l ++ r) = l ++ decE f r
  | [], f, r, _ => by simp [encE]
  | e :: l, f, r, h => by
    have e1 : encE (e :: l) ++ r = oneE e ++ (encE l ++ r) := by simp [encE, List.append_assoc]
    have h2 := decE_there l f r (fun x hx => h x (by simp [hx]))
    rw [e1, show (e :: l).length + f = (l.length + f) + 1 by simp; omega, decE_some (stepE_one e (h e (by simp)) _), h2]
    rfl
end Go.Proofs.Ytmekakecdgblaaa
