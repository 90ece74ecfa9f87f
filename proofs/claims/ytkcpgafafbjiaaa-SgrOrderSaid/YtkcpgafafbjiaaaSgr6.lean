/-
  Chapter 9: flags and colours apart (plain).
-/
import Derived.Test.YtkcpgafafbjiaaaSgr5
namespace Go.Proofs.Ytkcpgafafbjiaaa
open Go.RowKit
set_option linter.unusedVariables false
set_option linter.unusedSimpArgs false

theorem ofInt_wrap (v : BitVec 64) : BitVec.ofInt 64 (IntKind.i64.wrap (v.toNat : Int)) = v := by
  apply BitVec.eq_of_toNat_eq
  have h := v.isLt
  simp only [BitVec.toNat_ofInt, IntKind.wrap, IntKind.bits, IntKind.signed]
  simp
  omega
theorem wrap_ofInt {f : Int} (h : -9223372036854775808 ≤ f ∧ f ≤ 9223372036854775807) : IntKind.i64.wrap ((BitVec.ofInt 64 f).toNat : Int) = f := by
  simp only [BitVec.toNat_ofInt, IntKind.wrap, IntKind.bits, IntKind.signed]
  simp
  omega
theorem bits_or64 (x y : Int) : bits .or .i64 x y = IntKind.i64.wrap ((BitVec.ofInt 64 x ||| BitVec.ofInt 64 y).toNat : Int) := rfl
theorem bits_not64 (x y : Int) : bits .andNot .i64 x y = IntKind.i64.wrap ((BitVec.ofInt 64 x &&& ~~~ BitVec.ofInt 64 y).toNat : Int) := rfl
theorem setF_bits (f n : Int) : setF f n = IntKind.i64.wrap (((BitVec.ofInt 64 f ||| BitVec.ofInt 64 (flagF n)) &&& ~~~ BitVec.ofInt 64 (clearF n)).toNat : Int) := by
  unfold setF
  rw [bits_not64, bits_or64, ofInt_wrap]
theorem setF_twice (f n : Int) : setF (setF f n) n = setF f n := by
  rw [setF_bits (setF f n), setF_bits f n, ofInt_wrap]
  congr 3
  apply BitVec.eq_of_getLsbD_eq
  intro i hi
  simp only [BitVec.getLsbD_and, BitVec.getLsbD_or, BitVec.getLsbD_not, hi, decide_true, Bool.true_and]
  cases (BitVec.ofInt 64 f).getLsbD i <;> cases (BitVec.ofInt 64 (flagF n)).getLsbD i <;> cases (BitVec.ofInt 64 (clearF n)).getLsbD i <;> rfl
theorem setF_none {f n : Int} (hf : -9223372036854775808 ≤ f ∧ f ≤ 9223372036854775807) (h : 29 < n) : setF f n = f := by
  have h1 : flagF n = 0 := by unfold flagF; (repeat' split) <;> omega
  have h2 : clearF n = 0 := by unfold clearF; rw [if_neg (by omega), if_neg (by omega)]
  rw [setF_bits, h1, h2]
  have e : (BitVec.ofInt 64 f ||| BitVec.ofInt 64 0) &&& ~~~ BitVec.ofInt 64 0 = BitVec.ofInt 64 f := by
    apply BitVec.eq_of_getLsbD_eq
    intro i hi
    rw [BitVec.getLsbD_and, BitVec.getLsbD_or, BitVec.getLsbD_not, show BitVec.ofInt 64 0 = 0#64 from rfl, BitVec.getLsbD_zero]
    simp [hi]
  rw [e, wrap_ofInt hf]
theorem oneF_apart {f g b n : Int} (hf : -9223372036854775808 ≤ f ∧ f ≤ 9223372036854775807) (hn : 1 ≤ n ∧ n ≤ 107) :
    ((30 ≤ n ∧ n ≤ 39) ∨ (90 ≤ n ∧ n ≤ 97) ∨ (oneF (f, g, b) n).2.1 = g) ∧ ((40 ≤ n ∧ n ≤ 49) ∨ 100 ≤ n ∨ (oneF (f, g, b) n).2.2 = b) ∧ (n ≤ 29 ∨ (oneF (f, g, b) n).1 = f) ∧ oneF (oneF (f, g, b) n) n = oneF (f, g, b) n := by
  have e : ∀ a, oneF a n = (setF a.1 n, (if (colF n 30 90).2 then (colF n 30 90).1 else a.2.1), if (colF n 40 100).2 then (colF n 40 100).1 else a.2.2) := fun a => by unfold oneF; rw [if_neg (by omega)]
  refine ⟨?_, ?_, ?_, ?_⟩
  · by_cases h : (30 ≤ n ∧ n ≤ 39) ∨ (90 ≤ n ∧ n ≤ 97)
    · rcases h with h | h
      · exact .inl h
      · exact .inr (.inl h)
    · refine .inr (.inr ?_)
      have hc : (colF n 30 90).2 = false := by unfold colF; rw [if_neg (by omega), if_neg (by omega), if_neg (by omega)]
      rw [e]; simp [hc]
  · by_cases h : (40 ≤ n ∧ n ≤ 49) ∨ 100 ≤ n
    · rcases h with h | h
      · exact .inl h
      · exact .inr (.inl h)
    · refine .inr (.inr ?_)
      have hc : (colF n 40 100).2 = false := by unfold colF; rw [if_neg (by omega), if_neg (by omega), if_neg (by omega)]
      rw [e]; simp [hc]
  · by_cases h : n ≤ 29
    · exact .inl h
    · refine .inr ?_
      rw [e]; exact setF_none hf (by omega)
  · rw [e (oneF (f, g, b) n), e (f, g, b)]
    simp only [setF_twice]
    cases (colF n 30 90).2 <;> cases (colF n 40 100).2 <;> rfl
theorem apply_one {a : Int × Int × Int} {n : Int} (h : n ≠ 38 ∧ n ≠ 48) : applyF a [n] = oneF a n := by
  unfold applyF
  rw [if_neg (by simp)]
  show applyR 1 a [n] = _
  unfold applyR
  rw [if_pos h]
  rfl
end Go.Proofs.Ytkcpgafafbjiaaa
