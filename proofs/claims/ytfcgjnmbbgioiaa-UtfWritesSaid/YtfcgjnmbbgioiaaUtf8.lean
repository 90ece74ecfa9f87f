/-
  Chapter 3: there and back (plain), and tikref.Bytes.
-/
import Derived.Test.YtfcgjnmbbgioiaaUtf7
import Derived.Laws.BytesArg
namespace Go.Proofs.Ytfcgjnmbbgioiaa
open Go.RowKit
set_option linter.unusedVariables false
set_option linter.unusedSimpArgs false

theorem tk1 {a : Int} (h : lenB a = 1) : takeD [] a = ([], [a]) := by simp [takeD, takeF, h, signR]
theorem tk1m {a : Int} (h : 2 ≤ lenB a) : takeD [] a = ([a], []) := by simp [takeD, takeF, show lenB a ≠ 0 by omega, show lenB a ≠ 1 by omega]
theorem tk2 {a b : Int} (h : lenB a = 2) (f : folB a b 1 = true) : takeD [a] b = ([], [signR [a, b]]) := by simp [takeD, takeF, h, f]
theorem tk2m {a b : Int} (h : 3 ≤ lenB a) (f : folB a b 1 = true) : takeD [a] b = ([a, b], []) := by simp [takeD, takeF, f, show lenB a ≠ 0 by omega, show lenB a ≠ 2 by omega]
theorem tk3 {a b c : Int} (h : lenB a = 3) (f : folB a c 2 = true) : takeD [a, b] c = ([], [signR [a, b, c]]) := by simp [takeD, takeF, h, f]
theorem tk3m {a b c : Int} (h : 4 ≤ lenB a) (f : folB a c 2 = true) : takeD [a, b] c = ([a, b, c], []) := by simp [takeD, takeF, f, show lenB a ≠ 0 by omega, show lenB a ≠ 3 by omega]
theorem tk4 {a b c d : Int} (h : lenB a = 4) (f : folB a d 3 = true) : takeD [a, b, c] d = ([], [signR [a, b, c, d]]) := by simp [takeD, takeF, h, f]

/-- What an encoded sign is, byte by byte. -/
theorem enc_shape {s : Int} (h : isSign s = true) :
    (∃ a, encS s = [a] ∧ lenB a = 1 ∧ signR [a] = s) ∨
    (∃ a b, encS s = [a, b] ∧ lenB a = 2 ∧ folB a b 1 = true ∧ signR [a, b] = s) ∨
    (∃ a b c, encS s = [a, b, c] ∧ lenB a = 3 ∧ folB a b 1 = true ∧ folB a c 2 = true ∧ signR [a, b, c] = s) ∨
    (∃ a b c d, encS s = [a, b, c, d] ∧ lenB a = 4 ∧ folB a b 1 = true ∧ folB a c 2 = true ∧ folB a d 3 = true ∧ signR [a, b, c, d] = s) := by
  obtain ⟨b1, b2, b3⟩ := isSign_b h
  unfold encS
  by_cases s1 : s < 128
  · exact .inl ⟨s, by rw [if_pos s1], by simp [lenB, s1], rfl⟩
  by_cases s2 : s < 2048
  · refine .inr (.inl ⟨192 + s / 64, 128 + s % 64, by rw [if_neg s1, if_pos s2], ?_, ?_, ?_⟩)
    · unfold lenB; (repeat' split) <;> omega
    · unfold folB; simp; (repeat' split) <;> omega
    · unfold signR; simp only; omega
  by_cases s3 : s < 65536
  · refine .inr (.inr (.inl ⟨224 + s / 4096, 128 + s / 64 % 64, 128 + s % 64, by rw [if_neg s1, if_neg s2, if_pos s3], ?_, ?_, ?_, ?_⟩))
    · unfold lenB; (repeat' split) <;> omega
    · unfold folB; simp; (repeat' split) <;> omega
    · unfold folB; simp; omega
    · unfold signR; simp only; omega
  · refine .inr (.inr (.inr ⟨240 + s / 262144, 128 + s / 4096 % 64, 128 + s / 64 % 64, 128 + s % 64, by rw [if_neg s1, if_neg s2, if_neg s3], ?_, ?_, ?_, ?_, ?_⟩))
    · unfold lenB; (repeat' split) <;> omega
    · unfold folB; simp; (repeat' split) <;> omega
    · unfold folB; simp; omega
    · unfold folB; simp; omega
    · unfold signR; simp only; omega
theorem run_enc {s : Int} (h : isSign s = true) : runD [] (encS s) = ([], [s]) := by
  rcases enc_shape h with ⟨a, e, l, g⟩ | ⟨a, b, e, l, f1, g⟩ | ⟨a, b, c, e, l, f1, f2, g⟩ | ⟨a, b, c, d, e, l, f1, f2, f3, g⟩
  · rw [e]; have hs : a = s := g; subst hs; simp [runD, tk1 l]
  · rw [e]; simp [runD, tk1m (show 2 ≤ lenB a by omega), tk2 l f1, g]
  · rw [e]; simp [runD, tk1m (show 2 ≤ lenB a by omega), tk2m (show 3 ≤ lenB a by omega) f1, tk3 l f2, g]
  · rw [e]; simp [runD, tk1m (show 2 ≤ lenB a by omega), tk2m (show 3 ≤ lenB a by omega) f1, tk3m (show 4 ≤ lenB a by omega) f2, tk4 l f3, g]
theorem run_encL : ∀ l : List Int, runD [] (encL l) = ([], l.map fixR)
  | [] => rfl
  | r :: t => by
    have h : encL (r :: t) = encS (fixR r) ++ encL t := by simp [encL, encR]
    rw [h, runD_append, run_enc (fixR_sign r), run_encL t]; rfl
/-- A sign that is cut off waits. -/
theorem run_cut {s : Int} (h : isSign s = true) {n : Nat} (hn : n < (encS s).length) : runD [] ((encS s).take n) = ((encS s).take n, []) := by
  rcases enc_shape h with ⟨a, e, l, g⟩ | ⟨a, b, e, l, f1, g⟩ | ⟨a, b, c, e, l, f1, f2, g⟩ | ⟨a, b, c, d, e, l, f1, f2, f3, g⟩
  · rw [e] at hn ⊢; simp at hn; subst hn; rfl
  · rw [e] at hn ⊢
    rcases n with _ | _ | n
    · rfl
    · simp [runD, tk1m (show 2 ≤ lenB a by omega)]
    · simp at hn; omega
  · rw [e] at hn ⊢
    rcases n with _ | _ | _ | n
    · rfl
    · simp [runD, tk1m (show 2 ≤ lenB a by omega)]
    · simp [runD, tk1m (show 2 ≤ lenB a by omega), tk2m (show 3 ≤ lenB a by omega) f1]
    · simp at hn; omega
  · rw [e] at hn ⊢
    rcases n with _ | _ | _ | _ | n
    · rfl
    · simp [runD, tk1m (show 2 ≤ lenB a by omega)]
    · simp [runD, tk1m (show 2 ≤ lenB a by omega), tk2m (show 3 ≤ lenB a by omega) f1]
    · simp [runD, tk1m (show 2 ≤ lenB a by omega), tk2m (show 3 ≤ lenB a by omega) f1, tk3m (show 4 ≤ lenB a by omega) f2]
    · simp at hn; omega
/-- Plain bytes are signs. -/
theorem run_plain : ∀ l : List Int, (∀ x ∈ l, 0 ≤ x ∧ x ≤ 126) → runD [] l = ([], l)
  | [], _ => rfl
  | a :: t, h => by
    have ha := h a (by simp)
    have hl : lenB a = 1 := by simp [lenB, show a < 128 by omega]
    simp [runD, tk1 hl, run_plain t (fun x hx => h x (by simp [hx]))]
theorem fol_plain {f c at_ : Int} (h : 0 ≤ c ∧ c ≤ 126) : folB f c at_ = false := by
  unfold folB; simp; intro h1; split at h1 <;> omega
theorem run_broken {s : List Int} (hs : s ≠ []) : ∀ l : List Int, l ≠ [] → (∀ x ∈ l, 0 ≤ x ∧ x ≤ 126) → runD s l = ([], 65533 :: l)
  | [], h, _ => absurd rfl h
  | a :: t, _, h => by
    have ha := h a (by simp)
    have hl : lenB a = 1 := by simp [lenB, show a < 128 by omega]
    have h1 : takeD s a = ([], [65533, a]) := by
      have hf : folB (s.headD 0) a s.length = false := fol_plain ha
      unfold takeD
      rw [if_pos ⟨hs, hf⟩]
      simp [takeF, hl, signR]
    simp [runD, h1, run_plain t (fun x hx => h x (by simp [hx]))]
theorem fixR_idem (r : Int) : fixR (fixR r) = fixR r := by
  have h := fixR_sign r
  generalize fixR r = s at *
  unfold fixR
  rw [if_pos h]
theorem encL_fix (l : List Int) : encL (l.map fixR) = encL l := by
  induction l with
  | nil => rfl
  | cons a t ih => simp only [encL, List.map_cons, List.flatMap_cons, encR, fixR_idem] at *; rw [ih]
theorem encS_byte {s : Int} (h : isSign s = true) : ∀ x ∈ encS s, 0 ≤ x ∧ x ≤ 255 := by
  obtain ⟨b1, b2, b3⟩ := isSign_b h
  unfold encS
  (repeat' split) <;> intro x hx <;> simp at hx <;> omega
theorem encL_byte (l : List Int) : ∀ x ∈ encL l, 0 ≤ x ∧ x ≤ 255 := by
  intro x hx
  simp only [encL, List.mem_flatMap] at hx
  obtain ⟨r, _, h⟩ := hx
  exact encS_byte (fixR_sign r) x h
theorem fixR_b (r : Int) : -2147483648 ≤ fixR r ∧ fixR r ≤ 2147483647 := by have := isSign_b (fixR_sign r); omega

/-- The string of some bytes. -/
theorem rd_string (w : World) (v : Value) (xs : List Int) (h : Rd w 1 v xs.length (bytesV xs)) : (convert 22 9 v).run Try.prog w = .ok (.string (strOfNums xs)) w := by
  obtain ⟨ao, cap, rfl, h1, h2, h3⟩ := h
  cases xs with
  | nil =>
    cases ao with
    | none => exact run_convert_bytes_nil w 22 5 u_bytes (by kernel_rfl) _ _ 9 (by kernel_rfl)
    | some a =>
      rw [run_convert_bytes_string w 22 9 5 _ _ cap u_bytes (by kernel_rfl) (by kernel_rfl), run_bytesToString w a ([] : List Int).length cap [] rfl]
      rfl
  | cons x t =>
    obtain ⟨b, o, rfl, _⟩ := h3 0 _ rfl
    refine run_convert_bytes_arg w 22 5 u_bytes (by kernel_rfl) b o _ cap (x :: t) rfl (fun i hi => ?_) 9 (by kernel_rfl)
    obtain ⟨b', o', h4, h5⟩ := h3 i (.int .u8 ((x :: t).getD i 0)) (by unfold bytesV; rw [List.getElem?_map, List.getElem?_eq_getElem hi]; simp [List.getD, List.getElem?_eq_getElem hi])
    cases h4
    exact h5
theorem strOfNums_inj {xs ys : List Int} (hx : ∀ x ∈ xs, 0 ≤ x ∧ x ≤ 255) (hy : ∀ x ∈ ys, 0 ≤ x ∧ x ≤ 255) (h : strOfNums xs = strOfNums ys) : xs = ys := by
  have h2 := congrArg (fun b => b.data.toList) h
  simp only [strOfNums_data] at h2
  clear h
  induction xs generalizing ys with
  | nil => cases ys with
    | nil => rfl
    | cons y t => simp at h2
  | cons x t ih => cases ys with
    | nil => simp at h2
    | cons y u =>
      simp only [List.map_cons, List.cons.injEq] at h2
      have h3 := congrArg UInt8.toNat h2.1
      have b1 := hx x (by simp)
      have b2 := hy y (by simp)
      simp [UInt8.toNat_ofNat'] at h3
      have : x = y := by omega
      rw [this, ih (fun z hz => hx z (by simp [hz])) (fun z hz => hy z (by simp [hz])) h2.2]
theorem toList_inj {a b : ByteArray} (h : a.toList = b.toList) : a = b := by
  rw [ByteArray.toList_eq, ByteArray.toList_eq] at h
  exact ByteArray.ext (Array.toList_inj.1 h)
theorem bytes_eq (w : World) (va vb : Value) (xs ys : List Int) (ha : Rd w 1 va xs.length (bytesV xs)) (hb : Rd w 1 vb ys.length (bytesV ys)) (hx : ∀ x ∈ xs, 0 ≤ x ∧ x ≤ 255) (hy : ∀ x ∈ ys, 0 ≤ x ∧ x ≤ 255) :
    Calls Try.prog 19 #[va, vb] w fun e w' => e = .returned (.bool (decide (xs = ys))) ∧ w' = w := by
  have h1 := rd_string w va xs ha
  have h2 := rd_string w vb ys hb
  have hd : Hid (((strOfNums xs).toList == (strOfNums ys).toList) = decide (xs = ys)) := Lib.hid (by
    rw [Bool.eq_iff_iff]
    simp only [beq_iff_eq, decide_eq_true_eq]
    refine ⟨fun h => strOfNums_inj hx hy (toList_inj h), fun h => by rw [h]⟩)
  clear ha hb hx hy
  go_enter Try.func19, Try.ntmps19
  go_wp2
  go_ret
  refine ⟨?_, rfl⟩
  show Ending.returned (Value.bool _) = _
  rw [hd.out]
end Go.Proofs.Ytfcgjnmbbgioiaa
