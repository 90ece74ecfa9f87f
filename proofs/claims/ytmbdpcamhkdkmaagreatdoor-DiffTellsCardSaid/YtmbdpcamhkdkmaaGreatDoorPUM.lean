/-
  UTF-8 in plain Lean: bytes that wait, signs, what is written; there and back.
-/
import Derived.Test.YtmbdpcamhkdkmaaGreatDoorMg6
import Derived.Test.YtmbdpcamhkdkmaaGreatDoorMg15
import Derived.Test.YtmbdpcamhkdkmaaGreatDoorMg12
namespace Go.Proofs.YtmbdpcamhkdkmaaGreatDoor
open Go.RowKit
set_option linter.unusedVariables false
set_option linter.unusedSimpArgs false

/-- How many bytes a sign has that begins so. -/
def lenB (c : Int) : Int := if c < 128 then 1 else if 194 ≤ c ∧ c ≤ 223 then 2 else if 224 ≤ c ∧ c ≤ 239 then 3 else if 240 ≤ c ∧ c ≤ 244 then 4 else 0
/-- May a byte stand at a place behind a first one? -/
def folB (f c : Int) (at_ : Int) : Bool :=
  decide ((if at_ = 1 ∧ f = 224 then 160 else if at_ = 1 ∧ f = 240 then 144 else 128) ≤ c) && decide (c ≤ if at_ = 1 ∧ f = 237 then 159 else if at_ = 1 ∧ f = 244 then 143 else 191)
def isSign (r : Int) : Bool := decide (0 ≤ r ∧ r ≤ 1114111) && !decide (55296 ≤ r ∧ r ≤ 57343)
/-- How many bytes a number has. -/
def sizeR (r : Int) : Int := if isSign r then (if r < 128 then 1 else if r < 2048 then 2 else if r < 65536 then 3 else 4) else 3
/-- The sign of all bytes that wait. -/
def signR (s : List Int) : Int := match s with
  | [a] => a
  | [a, b] => a % 32 * 64 + b % 64
  | [a, b, c] => (a % 16 * 64 + b % 64) * 64 + c % 64
  | [a, b, c, d] => ((a % 8 * 64 + b % 64) * 64 + c % 64) * 64 + d % 64
  | _ => 0
theorem i_rune : (Tryz.prog.info? 21).map (fun i => (i.zero, i.size, i.bytes)) = some (some (.int .i32 0), 1, 4) := by kernel_rfl
/-- A byte where it may stand: what waits then, and the signs that it ends. -/
def takeF (s : List Int) (c : Int) : List Int × List Int :=
  if lenB ((s ++ [c]).headD 0) = 0 then ([], [65533]) else if lenB ((s ++ [c]).headD 0) = (s ++ [c]).length then ([], [signR (s ++ [c])]) else (s ++ [c], [])
def takeD (s : List Int) (c : Int) : List Int × List Int :=
  if s ≠ [] ∧ folB (s.headD 0) c s.length = false then ((takeF [] c).1, 65533 :: (takeF [] c).2) else takeF s c
/-- What can wait. -/
def Waits (s : List Int) : Prop := s = [] ∨ (s.length : Int) < lenB (s.headD 0)
theorem lenB_le (c : Int) : 0 ≤ lenB c ∧ lenB c ≤ 4 := by unfold lenB; (repeat' split) <;> omega
theorem Waits.len {s : List Int} (h : Waits s) : s.length ≤ 3 := by
  rcases h with rfl | h
  · simp
  · have := lenB_le (s.headD 0); omega
theorem Own.lit' (w w1 : World) (hw : w1.heap.size = w.heap.size) (e : TypeId) (cs : Array Value) (h : cs.size ≤ 1000) : Own (w1.alloc (.cells cs e)) e 1 (.slice (some ⟨w.heap.size, 0, none⟩) cs.size cs.size) cs.size cs.toList := by rw [← hw]; exact Own.lit w1 e cs h
theorem headD_get (l : List Int) : l.getD 0 0 = l.headD 0 := by cases l <;> rfl
/-- Bytes one by one: what waits in the end, and all signs. -/
def runD (s : List Int) : List Int → List Int × List Int
  | [] => (s, [])
  | c :: r => ((runD (takeD s c).1 r).1, (takeD s c).2 ++ (runD (takeD s c).1 r).2)
theorem runD_append (s : List Int) : ∀ (a b : List Int), runD s (a ++ b) = ((runD (runD s a).1 b).1, (runD s a).2 ++ (runD (runD s a).1 b).2)
  | [], b => by simp [runD]
  | c :: a, b => by simp [runD, runD_append (takeD s c).1 a b]
theorem takeF_waits (s : List Int) (c : Int) (h : s = [] ∨ Waits s) : Waits (takeF s c).1 := by
  unfold takeF
  split
  · exact .inl rfl
  · split
    · exact .inl rfl
    · rename_i h0 h1
      refine .inr ?_
      have hc := lenB_le c
      rcases h with rfl | rfl | h
      · simp at h0 h1 ⊢; omega
      · simp at h0 h1 ⊢; omega
      · cases s with
        | nil => simp at h0 h1 ⊢; omega
        | cons x r => simp at h0 h1 h ⊢; omega
theorem takeD_waits (s : List Int) (c : Int) (h : Waits s) : Waits (takeD s c).1 := by
  unfold takeD
  split
  · exact takeF_waits [] c (.inl rfl)
  · exact takeF_waits s c (.inr h)
theorem takeD_len (s : List Int) (c : Int) : (takeD s c).2.length ≤ 2 := by
  have h1 : ∀ s, (takeF s c).2.length ≤ 1 := fun s => by unfold takeF; (repeat' split) <;> simp
  unfold takeD
  split
  · have := h1 []; simp; omega
  · have := h1 s; omega
theorem runD_waits : ∀ (l s : List Int), Waits s → Waits (runD s l).1
  | [], s, h => h
  | c :: r, s, h => runD_waits r _ (takeD_waits s c h)
theorem runD_len : ∀ (l s : List Int), (runD s l).2.length ≤ 2 * l.length
  | [], s => by simp [runD]
  | c :: r, s => by have := runD_len r (takeD s c).1; have := takeD_len s c; simp [runD]; omega
theorem runD_snoc (s l : List Int) (c : Int) : runD s (l ++ [c]) = ((takeD (runD s l).1 c).1, (runD s l).2 ++ (takeD (runD s l).1 c).2) := by
  rw [runD_append]; simp [runD]
/-- The sign that is written for a number. -/
def fixR (r : Int) : Int := if isSign r then r else 65533
/-- Its bytes. -/
def encS (s : Int) : List Int :=
  if s < 128 then [s] else if s < 2048 then [192 + s / 64, 128 + s % 64] else if s < 65536 then [224 + s / 4096, 128 + s / 64 % 64, 128 + s % 64]
  else [240 + s / 262144, 128 + s / 4096 % 64, 128 + s / 64 % 64, 128 + s % 64]
def encR (r : Int) : List Int := encS (fixR r)
def encL (l : List Int) : List Int := l.flatMap encR
theorem fixR_sign (r : Int) : isSign (fixR r) = true := by
  unfold fixR; split
  · assumption
  · decide
theorem sizeR_fix (r : Int) : sizeR r = sizeR (fixR r) := by
  unfold fixR; split
  · rfl
  · unfold sizeR; simp [*]
theorem isSign_b {s : Int} (h : isSign s = true) : 0 ≤ s ∧ s ≤ 1114111 ∧ ¬ (55296 ≤ s ∧ s ≤ 57343) := by simp [isSign] at h; omega
theorem encS_len {s : Int} (h : isSign s = true) : ((encS s).length : Int) = sizeR s := by
  unfold encS sizeR; rw [if_pos h]; (repeat' split) <;> simp
theorem encS_le (s : Int) : 1 ≤ (encS s).length ∧ (encS s).length ≤ 4 := by
  unfold encS; (repeat' split) <;> simp
theorem encL_len (l : List Int) : (encL l).length ≤ 4 * l.length := by
  induction l with
  | nil => simp [encL]
  | cons a t ih => have := (encS_le (fixR a)).2; simp only [encL, List.flatMap_cons, List.length_append, List.length_cons, encR] at *; omega
theorem encL_snoc (l : List Int) (r : Int) : encL (l ++ [r]) = encL l ++ encR r := by simp [encL]
theorem tk1 {a : Int} (h : lenB a = 1) : takeD [] a = ([], [a]) := by simp [takeD, takeF, h, signR]
theorem tk1m {a : Int} (h : 2 ≤ lenB a) : takeD [] a = ([a], []) := by simp [takeD, takeF, show lenB a ≠ 0 by omega, show lenB a ≠ 1 by omega]
theorem tk2 {a b : Int} (h : lenB a = 2) (f : folB a b 1 = true) : takeD [a] b = ([], [signR [a, b]]) := by simp [takeD, takeF, h, f]
theorem tk2m {a b : Int} (h : 3 ≤ lenB a) (f : folB a b 1 = true) : takeD [a] b = ([a, b], []) := by simp [takeD, takeF, f, show lenB a ≠ 0 by omega, show lenB a ≠ 2 by omega]
theorem tk3 {a b c : Int} (h : lenB a = 3) (f : folB a c 2 = true) : takeD [a, b] c = ([], [signR [a, b, c]]) := by simp [takeD, takeF, h, f]
theorem tk3m {a b c : Int} (h : 4 ≤ lenB a) (f : folB a c 2 = true) : takeD [a, b] c = ([a, b, c], []) := by simp [takeD, takeF, f, show lenB a ≠ 0 by omega, show lenB a ≠ 3 by omega]
theorem tk4 {a b c d : Int} (h : lenB a = 4) (f : folB a d 3 = true) : takeD [a, b, c] d = ([], [signR [a, b, c, d]]) := by simp [takeD, takeF, h, f]
/-- What an encoded sign is, byte by byte. -/
theorem enc_shape {s : Int} (h : isSign s = true) :
    (∃ a, encS s = [a] ∧ lenB a = 1 ∧ signR [a] = s) ∨
    (∃ a b, encS s = [a, b] ∧ lenB a = 2 ∧ folB a b 1 = true ∧ signR [a, b] = s) ∨
    (∃ a b c, encS s = [a, b, c] ∧ lenB a = 3 ∧ folB a b 1 = true ∧ folB a c 2 = true ∧ signR [a, b, c] = s) ∨
    (∃ a b c d, encS s = [a, b, c, d] ∧ lenB a = 4 ∧ folB a b 1 = true ∧ folB a c 2 = true ∧ folB a d 3 = true ∧ signR [a, b, c, d] = s) := by
  obtain ⟨b1, b2, b3⟩ := isSign_b h
  unfold encS
  by_cases s1 : s < 128
  · exact .inl ⟨s, by rw [if_pos s1], by simp [lenB, s1], rfl⟩
  by_cases s2 : s < 2048
  · refine .inr (.inl ⟨192 + s / 64, 128 + s % 64, by rw [if_neg s1, if_pos s2], ?_, ?_, ?_⟩)
    · unfold lenB; (repeat' split) <;> omega
    · unfold folB; simp; (repeat' split) <;> omega
    · unfold signR; simp only; omega
  by_cases s3 : s < 65536
  · refine .inr (.inr (.inl ⟨224 + s / 4096, 128 + s / 64 % 64, 128 + s % 64, by rw [if_neg s1, if_neg s2, if_pos s3], ?_, ?_, ?_, ?_⟩))
    · unfold lenB; (repeat' split) <;> omega
    · unfold folB; simp; (repeat' split) <;> omega
    · unfold folB; simp; omega
    · unfold signR; simp only; omega
  · refine .inr (.inr (.inr ⟨240 + s / 262144, 128 + s / 4096 % 64, 128 + s / 64 % 64, 128 + s % 64, by rw [if_neg s1, if_neg s2, if_neg s3], ?_, ?_, ?_, ?_, ?_⟩))
    · unfold lenB; (repeat' split) <;> omega
    · unfold folB; simp; (repeat' split) <;> omega
    · unfold folB; simp; omega
    · unfold folB; simp; omega
    · unfold signR; simp only; omega
theorem run_enc {s : Int} (h : isSign s = true) : runD [] (encS s) = ([], [s]) := by
  rcases enc_shape h with ⟨a, e, l, g⟩ | ⟨a, b, e, l, f1, g⟩ | ⟨a, b, c, e, l, f1, f2, g⟩ | ⟨a, b, c, d, e, l, f1, f2, f3, g⟩
  · rw [e]; have hs : a = s := g; subst hs; simp [runD, tk1 l]
  · rw [e]; simp [runD, tk1m (show 2 ≤ lenB a by omega), tk2 l f1, g]
  · rw [e]; simp [runD, tk1m (show 2 ≤ lenB a by omega), tk2m (show 3 ≤ lenB a by omega) f1, tk3 l f2, g]
  · rw [e]; simp [runD, tk1m (show 2 ≤ lenB a by omega), tk2m (show 3 ≤ lenB a by omega) f1, tk3m (show 4 ≤ lenB a by omega) f2, tk4 l f3, g]
theorem run_encL : ∀ l : List Int, runD [] (encL l) = ([], l.map fixR)
  | [] => rfl
  | r :: t => by
    have h : encL (r :: t) = encS (fixR r) ++ encL t := by simp [encL, encR]
    rw [h, runD_append, run_enc (fixR_sign r), run_encL t]; rfl
/-- A sign that is cut off waits. -/
theorem run_cut {s : Int} (h : isSign s = true) {n : Nat} (hn : n < (encS s).length) : runD [] ((encS s).take n) = ((encS s).take n, []) := by
  rcases enc_shape h with ⟨a, e, l, g⟩ | ⟨a, b, e, l, f1, g⟩ | ⟨a, b, c, e, l, f1, f2, g⟩ | ⟨a, b, c, d, e, l, f1, f2, f3, g⟩
  · rw [e] at hn ⊢; simp at hn; subst hn; rfl
  · rw [e] at hn ⊢
    rcases n with _ | _ | n
    · rfl
    · simp [runD, tk1m (show 2 ≤ lenB a by omega)]
    · simp at hn; omega
  · rw [e] at hn ⊢
    rcases n with _ | _ | _ | n
    · rfl
    · simp [runD, tk1m (show 2 ≤ lenB a by omega)]
    · simp [runD, tk1m (show 2 ≤ lenB a by omega), tk2m (show 3 ≤ lenB a by omega) f1]
    · simp at hn; omega
  · rw [e] at hn ⊢
    rcases n with _ | _ | _ | _ | n
    · rfl
    · simp [runD, tk1m (show 2 ≤ lenB a by omega)]
    · simp [runD, tk1m (show 2 ≤ lenB a by omega), tk2m (show 3 ≤ lenB a by omega) f1]
    · simp [runD, tk1m (show 2 ≤ lenB a by omega), tk2m (show 3 ≤ lenB a by omega) f1, tk3m (show 4 ≤ lenB a by omega) f2]
    · simp at hn; omega
/-- Plain bytes are signs. -/
theorem run_plain : ∀ l : List Int, (∀ x ∈ l, 0 ≤ x ∧ x ≤ 126) → runD [] l = ([], l)
  | [], _ => rfl
  | a :: t, h => by
    have ha := h a (by simp)
    have hl : lenB a = 1 := by simp [lenB, show a < 128 by omega]
    simp [runD, tk1 hl, run_plain t (fun x hx => h x (by simp [hx]))]
theorem fol_plain {f c at_ : Int} (h : 0 ≤ c ∧ c ≤ 126) : folB f c at_ = false := by
  unfold folB; simp; intro h1; split at h1 <;> omega
theorem run_broken {s : List Int} (hs : s ≠ []) : ∀ l : List Int, l ≠ [] → (∀ x ∈ l, 0 ≤ x ∧ x ≤ 126) → runD s l = ([], 65533 :: l)
  | [], h, _ => absurd rfl h
  | a :: t, _, h => by
    have ha := h a (by simp)
    have hl : lenB a = 1 := by simp [lenB, show a < 128 by omega]
    have h1 : takeD s a = ([], [65533, a]) := by
      have hf : folB (s.headD 0) a s.length = false := fol_plain ha
      unfold takeD
      rw [if_pos ⟨hs, hf⟩]
      simp [takeF, hl, signR]
    simp [runD, h1, run_plain t (fun x hx => h x (by simp [hx]))]
theorem fixR_idem (r : Int) : fixR (fixR r) = fixR r := by
  have h := fixR_sign r
  generalize fixR r = s at *
  unfold fixR
  rw [if_pos h]
theorem encL_fix (l : List Int) : encL (l.map fixR) = encL l := by
  induction l with
  | nil => rfl
  | cons a t ih => simp only [encL, List.map_cons, List.flatMap_cons, encR, fixR_idem] at *; rw [ih]
theorem encS_byte {s : Int} (h : isSign s = true) : ∀ x ∈ encS s, 0 ≤ x ∧ x ≤ 255 := by
  obtain ⟨b1, b2, b3⟩ := isSign_b h
  unfold encS
  (repeat' split) <;> intro x hx <;> simp at hx <;> omega
theorem encL_byte (l : List Int) : ∀ x ∈ encL l, 0 ≤ x ∧ x ≤ 255 := by
  intro x hx
  simp only [encL, List.mem_flatMap] at hx
  obtain ⟨r, _, h⟩ := hx
  exact encS_byte (fixR_sign r) x h
theorem fixR_b (r : Int) : -2147483648 ≤ fixR r ∧ fixR r ≤ 2147483647 := by have := isSign_b (fixR_sign r); omega
/-- What front tells: k bytes that begin a sign of n bytes (0: none begins so). -/
def Front (R : List Int) (k n : Nat) : Prop :=
  (n : Int) = lenB (R.headD 0) ∧ 1 ≤ k ∧ k ≤ R.length ∧ ((n = 0 ∧ k = 1) ∨ (k ≤ n ∧ (∀ j, 0 < j → j < k → folB (R.headD 0) (R.getD j 0) j = true) ∧ (k = n ∨ k = R.length ∨ folB (R.headD 0) (R.getD k 0) k = false)))
theorem last_split {t : List Int} {m : Nat} (h : t.length = m + 1) : t = t.take m ++ [t.getD m 0] := by
  rw [← take_snoc (by omega) 0, List.take_of_length_le (by omega)]
theorem run_begin {a : Int} {n : Nat} (hn : (n : Int) = lenB a) : ∀ (m : Nat) (t : List Int), t.length = m → m + 1 < n → (∀ j, j < m → folB a (t.getD j 0) (j + 1 : Nat) = true) → runD [] (a :: t) = (a :: t, [])
  | 0, t, ht, h, _ => by
    obtain rfl := List.length_eq_zero_iff.1 ht
    simp [runD, tk1m (show 2 ≤ lenB a by omega)]
  | m + 1, t, ht, h, hf => by
    have h1 := run_begin hn m (t.take m) (by simp; omega) (by omega) (fun j hj => by have := hf j (by omega); simpa [List.getD, List.getElem?_take_of_lt hj] using this)
    have h2 := hf m (by omega)
    have hl : (t.take m).length = m := by simp; omega
    have hs := last_split ht
    generalize t.getD m 0 = c at *
    generalize t.take m = u at *
    subst hs
    rw [← List.cons_append, runD_append, h1]
    have h3 : takeD (a :: u) c = (a :: u ++ [c], []) := by
      unfold takeD
      rw [if_neg (by rintro ⟨-, h⟩; simp [hl] at h; rw [show ((m : Int) + 1) = ((m + 1 : Nat) : Int) by omega, h2] at h; cases h)]
      unfold takeF
      rw [if_neg (by simp; omega), if_neg (by simp; omega)]
    simp [runD, h3]
theorem run_whole {a : Int} {n : Nat} (hn : (n : Int) = lenB a) : ∀ (m : Nat) (t : List Int), t.length = m → m + 1 = n → (∀ j, j < m → folB a (t.getD j 0) (j + 1 : Nat) = true) → runD [] (a :: t) = ([], [signR (a :: t)])
  | 0, t, ht, h, _ => by
    obtain rfl := List.length_eq_zero_iff.1 ht
    have hl : lenB a = 1 := by omega
    simp [runD, tk1 hl, signR]
  | m + 1, t, ht, h, hf => by
    have h1 := run_begin hn m (t.take m) (by simp; omega) (by omega) (fun j hj => by have := hf j (by omega); simpa [List.getD, List.getElem?_take_of_lt hj] using this)
    have h2 := hf m (by omega)
    have hl : (t.take m).length = m := by simp; omega
    have hs := last_split ht
    generalize t.getD m 0 = c at *
    generalize t.take m = u at *
    subst hs
    rw [← List.cons_append, runD_append, h1]
    have h3 : takeD (a :: u) c = ([], [signR (a :: u ++ [c])]) := by
      unfold takeD
      rw [if_neg (by rintro ⟨-, h⟩; simp [hl] at h; rw [show ((m : Int) + 1) = ((m + 1 : Nat) : Int) by omega, h2] at h; cases h)]
      unfold takeF
      rw [if_neg (by simp; omega), if_pos (by simp; omega)]
    simp [runD, h3]
theorem front_split {R : List Int} {k n : Nat} (h : Front R k n) : ∃ a t, R.take k = a :: t ∧ R.headD 0 = a ∧ t.length + 1 = k ∧ R = (a :: t) ++ R.drop k ∧ ∀ j, j < t.length → t.getD j 0 = R.getD (j + 1) 0 := by
  obtain ⟨h1, h2, h3, h4⟩ := h
  cases R with
  | nil => simp at h3; omega
  | cons a r =>
    obtain ⟨q, rfl⟩ : ∃ q, k = q + 1 := ⟨k - 1, by omega⟩
    simp at h3
    refine ⟨a, r.take q, by simp, rfl, by simp; omega, by simp, fun j hj => ?_⟩
    simp at hj
    simp [List.getD, List.getElem?_take_of_lt (show j < q by omega)]
/-- A whole sign at the front. -/
theorem front_whole {R : List Int} {k : Nat} (h : Front R k k) : runD [] R = ((runD [] (R.drop k)).1, signR (R.take k) :: (runD [] (R.drop k)).2) := by
  obtain ⟨a, t, e1, e2, e3, e4, e5⟩ := front_split h
  obtain ⟨h1, h2, h3, h4⟩ := h
  rw [e2] at h1 h4
  rcases h4 with ⟨h4, _⟩ | ⟨h4, h5, _⟩
  · omega
  have hw := run_whole h1 _ t rfl (by omega) (fun j hj => by rw [e5 j hj]; exact h5 (j + 1) (by omega) (by omega))
  conv => lhs; rw [e4]
  rw [runD_append, hw, e1]
  rfl
/-- All that is left begins a sign. -/
theorem front_waits {R : List Int} {n : Nat} (h : Front R R.length n) (hn : 0 < n) (hk : R.length ≠ n) : runD [] R = (R, []) := by
  obtain ⟨a, t, e1, e2, e3, e4, e5⟩ := front_split h
  obtain ⟨h1, h2, h3, h4⟩ := h
  rw [e2] at h1 h4
  rw [List.take_length] at e1
  rcases h4 with ⟨h4, _⟩ | ⟨h4, h5, _⟩
  · omega
  have hw := run_begin h1 _ t rfl (by omega) (fun j hj => by rw [e5 j hj]; exact h5 (j + 1) (by omega) (by omega))
  rw [e1, hw]
/-- What begins no sign. -/
theorem front_bad {R : List Int} {k n : Nat} (h : Front R k n) (hk : k ≠ n) (hw : n = 0 ∨ k ≠ R.length) : runD [] R = ((runD [] (R.drop k)).1, 65533 :: (runD [] (R.drop k)).2) := by
  obtain ⟨a, t, e1, e2, e3, e4, e5⟩ := front_split h
  obtain ⟨h1, h2, h3, h4⟩ := h
  rw [e2] at h1 h4
  rcases h4 with ⟨h4, h5⟩ | ⟨h4, h5, h6⟩
  · subst h4 h5
    have ht : t = [] := List.length_eq_zero_iff.1 (by omega)
    subst ht
    have hl : lenB a = 0 := by simpa using h1.symm
    conv => lhs; rw [e4]
    have hr : runD [] [a] = ([], [65533]) := by simp [runD, takeD, takeF, hl]
    rw [runD_append, hr]
    rfl
  · have hkn : k < n := by omega
    have hkr : k ≠ R.length := by rcases hw with h | h <;> omega
    have hf : folB a (R.getD k 0) k = false := by rcases h6 with h | h | h <;> first | omega | exact h
    have hb := run_begin h1 _ t rfl (by omega) (fun j hj => by rw [e5 j hj]; exact h5 (j + 1) (by omega) (by omega))
    have hd : R.drop k = R.getD k 0 :: R.drop (k + 1) := by
      have hlt : k < R.length := by omega
      rw [List.drop_eq_getElem_cons hlt]
      simp [List.getD, hlt]
    conv => lhs; rw [e4]
    rw [runD_append, hb, hd]
    generalize R.getD k 0 = c at *
    have ht1 : takeD (a :: t) c = ((takeF [] c).1, 65533 :: (takeF [] c).2) := by
      unfold takeD
      rw [if_pos ⟨by simp, by simpa [e3] using hf⟩]
    have ht2 : takeD [] c = takeF [] c := by unfold takeD; rw [if_neg (by simp)]
    simp [runD, ht1, ht2]
theorem enc_same (r : Int) : (Utf8.encode r).data.toList = (encR r).map (fun n => UInt8.ofNat n.toNat) := by
  have hv : Utf8.valid r = isSign r := by rw [Bool.eq_iff_iff]; simp [Utf8.valid, isSign]; omega
  obtain ⟨n, hn⟩ := Int.eq_ofNat_of_zero_le (isSign_b (fixR_sign r)).1
  have hc : (if Utf8.valid r = true then r.toNat else Utf8.runeError) = n := by
    rw [hv]
    unfold fixR at hn
    split at hn <;> rename_i h
    · rw [if_pos h, hn]; rfl
    · rw [if_neg h]
      have : n = 65533 := by omega
      rw [this]; rfl
  unfold Utf8.encode encR encS
  rw [hc, hn]
  by_cases h1 : n < 128
  · have h1' : (n : Int) < 128 := by omega
    rw [if_pos h1']
    simp [h1]
  · have h1' : ¬ (n : Int) < 128 := by omega
    rw [if_neg h1']
    by_cases h2 : n < 2048
    · have h2' : (n : Int) < 2048 := by omega
      rw [if_pos h2']
      have e1 : (192 + (n : Int) / 64).toNat = 192 + n / 64 := by omega
      have e2 : (128 + (n : Int) % 64).toNat = 128 + n % 64 := by omega
      simp only [List.map_cons, List.map_nil, e1, e2]
      simp only [h1, h2, if_true, if_false]
    · have h2' : ¬ (n : Int) < 2048 := by omega
      rw [if_neg h2']
      by_cases h3 : n < 65536
      · have h3' : (n : Int) < 65536 := by omega
        rw [if_pos h3']
        have e1 : (224 + (n : Int) / 4096).toNat = 224 + n / 4096 := by omega
        have e2 : (128 + (n : Int) / 64 % 64).toNat = 128 + n / 64 % 64 := by omega
        have e3 : (128 + (n : Int) % 64).toNat = 128 + n % 64 := by omega
        simp only [List.map_cons, List.map_nil, e1, e2, e3]
        simp only [h1, h2, h3, if_true, if_false]
      · have h3' : ¬ (n : Int) < 65536 := by omega
        rw [if_neg h3']
        have e1 : (240 + (n : Int) / 262144).toNat = 240 + n / 262144 := by omega
        have e2 : (128 + (n : Int) / 4096 % 64).toNat = 128 + n / 4096 % 64 := by omega
        have e3 : (128 + (n : Int) / 64 % 64).toNat = 128 + n / 64 % 64 := by omega
        have e4 : (128 + (n : Int) % 64).toNat = 128 + n % 64 := by omega
        simp only [List.map_cons, List.map_nil, e1, e2, e3, e4]
        simp only [h1, h2, h3, if_false]
theorem runes_fold : ∀ (t : List Int) (b : ByteArray), (t.foldl (fun r n => r ++ Utf8.encode n) b).data.toList = b.data.toList ++ (encL t).map (fun n => UInt8.ofNat n.toNat)
  | [], b => by simp [encL]
  | r :: t, b => by
    rw [List.foldl_cons, runes_fold t, ByteArray.data_append, Array.toList_append, enc_same]
    simp [encL]
theorem runes_enc (t : List Int) : strOfNums (encL t) = runesBytes t := by
  have e := runes_fold t ByteArray.empty
  apply ByteArray.ext
  apply Array.toList_inj.1
  rw [strOfNums_data]
  unfold runesBytes
  rw [e]
  rfl
end Go.Proofs.YtmbdpcamhkdkmaaGreatDoor
