
/-
  The sum of bytes of chapter 2 in plain Lean.
-/
import Derived.Test.YtmekakecdgblaaaFour
import Derived.Lib.EndianBits
namespace Go.Proofs.Ytmekakecdgblaaa
open Go.RowKit
set_option linter.unusedVariables false
set_option linter.unusedSimpArgs false

/-- One bit. -/
def crcB (s : Int) : Int := bits .xor .u32 (s / 2) (IntKind.u32.wrap (3988292384 * bits .and .u32 s 1))
def crcF : Nat → Int → Int
  | 0, s => s
  | n + 1, s => crcF n (crcB s)
theorem crcF_succ : ∀ (n : Nat) (s : Int), crcF (n + 1) s = crcB (crcF n s)
  | 0, s => rfl
  | n + 1, s => by rw [crcF, crcF_succ n]; rfl
/-- One byte. -/
def crcC (s c : Int) : Int := crcF 8 (bits .xor .u32 s c)
def crcL (l : List Int) : Int := bits .xor .u32 (l.foldl crcC 4294967295) 4294967295
theorem xor_comm32 (a b : Int) : bits .xor .u32 a b = bits .xor .u32 b a := by
  unfold bits
  simp only [BitVec.xor_comm]
theorem and1_u32 (s : Int) (h0 : 0 ≤ s) (h1 : s < 4294967296) : bits .and .u32 s 1 = s % 2 := by
  obtain ⟨n, rfl⟩ : ∃ n : Nat, s = (n : Int) := ⟨s.toNat, by omega⟩
  have hn : n < 4294967296 := by omega
  have e1 : BitVec.ofInt 32 (n : Int) = BitVec.ofNat 32 n := by simp
  show IntKind.u32.wrap ((BitVec.ofInt 32 (n : Int) &&& BitVec.ofInt 32 1).toNat : Int) = _
  rw [e1]
  have e2 : (BitVec.ofNat 32 n &&& BitVec.ofInt 32 1).toNat = n % 2 := by
    rw [BitVec.toNat_and, BitVec.toNat_ofNat, Nat.mod_eq_of_lt (by omega)]
    show n &&& 1 = n % 2
    exact Nat.and_one_is_mod n
  rw [e2]
  simp only [IntKind.wrap, IntKind.bits, IntKind.signed]
  simp
  omega
theorem xor_rng (a b : Int) : 0 ≤ bits .xor .u32 a b ∧ bits .xor .u32 a b < 4294967296 := by
  unfold bits
  simp only [IntKind.wrap, IntKind.bits, IntKind.signed]
  simp
  omega
theorem xor0_u32 (s : Int) (h0 : 0 ≤ s) (h1 : s < 4294967296) : bits .xor .u32 s 0 = s := by
  obtain ⟨n, rfl⟩ : ∃ n : Nat, s = (n : Int) := ⟨s.toNat, by omega⟩
  have hn : n < 4294967296 := by omega
  have e1 : BitVec.ofInt 32 (n : Int) = BitVec.ofNat 32 n := by simp
  show IntKind.u32.wrap ((BitVec.ofInt 32 (n : Int) ^^^ BitVec.ofInt 32 0).toNat : Int) = _
  rw [e1]
  have e2 : (BitVec.ofNat 32 n ^^^ BitVec.ofInt 32 0).toNat = n := by
    rw [BitVec.toNat_xor, BitVec.toNat_ofNat, Nat.mod_eq_of_lt (by omega)]
    show n ^^^ 0 = n
    exact Nat.xor_zero n
  rw [e2]
  simp only [IntKind.wrap, IntKind.bits, IntKind.signed]
  simp
  omega
/-- The document's bit: the lowest is asked for. -/
theorem crcB_odd (s : Int) (h0 : 0 ≤ s) (h1 : s < 4294967296) (h : s % 2 = 1) : crcB s = bits .xor .u32 (s / 2) 3988292384 := by
  unfold crcB
  rw [and1_u32 s h0 h1, h]
  rfl
theorem crcB_even (s : Int) (h0 : 0 ≤ s) (h1 : s < 4294967296) (h : s % 2 = 0) : crcB s = s / 2 := by
  unfold crcB
  rw [and1_u32 s h0 h1, h]
  exact xor0_u32 _ (by omega) (by omega)
theorem crcB_rng (s : Int) : 0 ≤ crcB s ∧ crcB s < 4294967296 := xor_rng _ _
theorem crcF_rng : ∀ (n : Nat) (s : Int), 0 ≤ s ∧ s < 4294967296 → 0 ≤ crcF n s ∧ crcF n s < 4294967296
  | 0, s, h => h
  | n + 1, s, h => by rw [crcF_succ]; exact crcB_rng _
theorem crcC_rng (s c : Int) : 0 ≤ crcC s c ∧ crcC s c < 4294967296 := crcF_rng 8 _ (xor_rng _ _)
theorem crc_rng : ∀ (l : List Int) (s : Int), 0 ≤ s ∧ s < 4294967296 → 0 ≤ l.foldl crcC s ∧ l.foldl crcC s < 4294967296
  | [], s, h => h
  | c :: l, s, h => by rw [List.foldl_cons]; exact crc_rng l _ (crcC_rng s c)
theorem crcL_rng (l : List Int) : 0 ≤ crcL l ∧ crcL l < 4294967296 := xor_rng _ _
end Go.Proofs.Ytmekakecdgblaaa
