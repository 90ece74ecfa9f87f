
/-
  The sum of bytes in plain Lean, as both texts reckon it.
-/
import Derived.Test.YtcgdmidjejmjhaaDoorK
import Derived.Lib.EndianBits
namespace Go.Proofs.YtcgdmidjejmjhaaDoor
open Go.RowKit
set_option linter.unusedVariables false
set_option linter.unusedSimpArgs false

abbrev xo (a b : Int) : Int := bits .xor .u32 a b
abbrev an (a b : Int) : Int := bits .and .u32 a b
abbrev wu (a : Int) : Int := IntKind.u32.wrap a
/-- A word turned to the right. -/
def rotR (x : Int) (n : Nat) : Int := bits .or .u32 (IntKind.u32.wrap (x * 2 ^ (32 - n))) (x / 2 ^ n)
theorem or_comm' (k : IntKind) (a b : Int) : bits .or k a b = bits .or k b a := by
  unfold bits
  simp only [BitVec.or_comm]
/-- Eight words. -/
structure S8 where
  a : Int
  b : Int
  c : Int
  d : Int
  e : Int
  f : Int
  g : Int
  h : Int
deriving DecidableEq
def S8.l (s : S8) : List Int := [s.a, s.b, s.c, s.d, s.e, s.f, s.g, s.h]
def wordsV (l : List Int) : List Value := l.map (Value.int .u32)
def S8.val (s : S8) : Value := .agg #[.int .u32 s.a, .int .u32 s.b, .int .u32 s.c, .int .u32 s.d, .int .u32 s.e, .int .u32 s.f, .int .u32 s.g, .int .u32 s.h]
def notI (x : Int) : Int := bits .xor .u32 4294967295 x
/-- One round. -/
def oneI (s : S8) (k w : Int) : Int := wu (wu (wu (wu (s.h + xo (xo (rotR s.e 6) (rotR s.e 11)) (rotR s.e 25)) + xo (an s.e s.f) (an (notI s.e) s.g)) + k) + w)
def twoI (s : S8) : Int := wu (xo (xo (rotR s.a 2) (rotR s.a 13)) (rotR s.a 22) + xo (xo (an s.a s.b) (an s.a s.c)) (an s.b s.c))
def rnd (s : S8) (k w : Int) : S8 := ⟨wu (oneI s k w + twoI s), s.a, s.b, s.c, wu (s.d + oneI s k w), s.e, s.f, s.g⟩
def rndsF (s : S8) : List Int → List Int → S8
  | k :: ks, w :: ws => rndsF (rnd s k w) ks ws
  | _, _ => s
def addS8 (s t : S8) : S8 := ⟨wu (s.a + t.a), wu (s.b + t.b), wu (s.c + t.c), wu (s.d + t.d), wu (s.e + t.e), wu (s.f + t.f), wu (s.g + t.g), wu (s.h + t.h)⟩
/-- The words of the later rounds. -/
def nextW (l : List Int) : Int :=
  let n := l.length
  wu (wu (wu (l.getD (n - 16) 0 + xo (xo (rotR (l.getD (n - 15) 0) 7) (rotR (l.getD (n - 15) 0) 18)) (l.getD (n - 15) 0 / 8)) + l.getD (n - 7) 0) + xo (xo (rotR (l.getD (n - 2) 0) 17) (rotR (l.getD (n - 2) 0) 19)) (l.getD (n - 2) 0 / 1024))
def extF : Nat → List Int → List Int
  | 0, l => l
  | n + 1, l => extF n (l ++ [nextW l])
theorem extF_len : ∀ (n : Nat) (l : List Int), (extF n l).length = l.length + n
  | 0, l => rfl
  | n + 1, l => by rw [extF, extF_len n, List.length_append]; simp; omega
theorem extF_succ : ∀ (n : Nat) (l : List Int), extF (n + 1) l = extF n l ++ [nextW (extF n l)]
  | 0, l => rfl
  | n + 1, l => by rw [extF, extF_succ n]; rfl
/-- The first sixteen words of a block: four bytes each, the greatest first. -/
def word4 (l : List Int) (j : Nat) : Int := ((l.getD (4 * j) 0 * 256 + l.getD (4 * j + 1) 0) * 256 + l.getD (4 * j + 2) 0) * 256 + l.getD (4 * j + 3) 0
def first16 (l : List Int) : List Int := (List.range 16).map (word4 l)
def sched (l : List Int) : List Int := extF 48 (first16 l)
def roundsL : List Int := [1116352408, 1899447441, 3049323471, 3921009573, 961987163, 1508970993, 2453635748, 2870763221, 3624381080, 310598401, 607225278, 1426881987, 1925078388, 2162078206, 2614888103, 3248222580, 3835390401, 4022224774, 264347078, 604807628, 770255983, 1249150122, 1555081692, 1996064986, 2554220882, 2821834349, 2952996808, 3210313671, 3336571891, 3584528711, 113926993, 338241895, 666307205, 773529912, 1294757372, 1396182291, 1695183700, 1986661051, 2177026350, 2456956037, 2730485921, 2820302411, 3259730800, 3345764771, 3516065817, 3600352804, 4094571909, 275423344, 430227734, 506948616, 659060556, 883997877, 958139571, 1322822218, 1537002063, 1747873779, 1955562222, 2024104815, 2227730452, 2361852424, 2428436474, 2756734187, 3204031479, 3329325298]
/-- A state into which a block was mixed. -/
def mixF (s : S8) (l : List Int) : S8 := addS8 s (rndsF s roundsL (sched l))
def mixAll : Nat → S8 → List Int → S8
  | 0, s, _ => s
  | n + 1, s, l => mixAll n (mixF s (l.take 64)) (l.drop 64)
def start8 : S8 := ⟨1779033703, 3144134277, 1013904242, 2773480762, 1359893119, 2600822924, 528734635, 1541459225⟩
def eightL (n : Nat) : List Int := [((n / 2 ^ 56 % 256 : Nat) : Int), ((n / 2 ^ 48 % 256 : Nat) : Int), ((n / 2 ^ 40 % 256 : Nat) : Int), ((n / 2 ^ 32 % 256 : Nat) : Int), ((n / 2 ^ 24 % 256 : Nat) : Int), ((n / 2 ^ 16 % 256 : Nat) : Int), ((n / 2 ^ 8 % 256 : Nat) : Int), ((n % 256 : Nat) : Int)]
/-- How many zeros stand behind the mark. -/
def zerosN (n : Nat) : Nat := (119 - n % 64) % 64
def filledL (l : List Int) : List Int := l ++ [128] ++ List.replicate (zerosN l.length) 0 ++ eightL (8 * l.length)
theorem filledL_len (l : List Int) : (filledL l).length % 64 = 0 ∧ (filledL l).length = l.length + 9 + zerosN l.length := by
  simp only [filledL, List.length_append, List.length_replicate, List.length_singleton, eightL, List.length_cons, List.length_nil, zerosN]
  omega
def fourL (x : Int) : List Int := [IntKind.u8.wrap (x / 16777216), IntKind.u8.wrap (x / 65536), IntKind.u8.wrap (x / 256), IntKind.u8.wrap x]
def sumL (l : List Int) : List Int := (mixAll ((filledL l).length / 64) start8 (filledL l)).l.flatMap fourL
theorem sumL_len (l : List Int) : (sumL l).length = 32 := by simp [sumL, S8.l, fourL]
def paddedL (key : List Int) (by_ : Int) : List Int :=
  let k := if key.length ≤ 64 then key else sumL key
  (List.range 64).map fun i => bits .xor .u8 by_ (k.getD i 0)
def hmacL (key l : List Int) : List Int := sumL (paddedL key 92 ++ sumL (paddedL key 54 ++ l))
def tagL (key l : List Int) : List Int := (hmacL key l).take 16
end Go.Proofs.YtcgdmidjejmjhaaDoor
