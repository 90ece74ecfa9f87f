
/-
  Bytes and strings: tikref.Bytes.
-/
import Derived.Test.YtmekakecdgblaaaBy
import Derived.Laws.BytesArg
namespace Go.Proofs.Ytmekakecdgblaaa
open Go.RowKit
set_option linter.unusedVariables false
set_option linter.unusedSimpArgs false

/-- The string of some bytes. -/
theorem rd_string (w : World) (v : Value) (xs : List Int) (h : Rd w 1 v xs.length (bytesV xs)) : (convert 23 9 v).run Try.prog w = .ok (.string (strOfNums xs)) w := by
  obtain ⟨ao, cap, rfl, h1, h2, h3⟩ := h
  cases xs with
  | nil =>
    cases ao with
    | none => exact run_convert_bytes_nil w 23 5 u_bytes (by kernel_rfl) _ _ 9 (by kernel_rfl)
    | some a =>
      rw [run_convert_bytes_string w 23 9 5 _ _ cap u_bytes (by kernel_rfl) (by kernel_rfl), run_bytesToString w a ([] : List Int).length cap [] rfl]
      rfl
  | cons x t =>
    obtain ⟨b, o, rfl, _⟩ := h3 0 _ rfl
    refine run_convert_bytes_arg w 23 5 u_bytes (by kernel_rfl) b o _ cap (x :: t) rfl (fun i hi => ?_) 9 (by kernel_rfl)
    obtain ⟨b', o', h4, h5⟩ := h3 i (.int .u8 ((x :: t).getD i 0)) (by unfold bytesV; rw [List.getElem?_map, List.getElem?_eq_getElem hi]; simp [List.getD, List.getElem?_eq_getElem hi])
    cases h4
    exact h5
theorem strOfNums_inj {xs ys : List Int} (hx : ∀ x ∈ xs, 0 ≤ x ∧ x ≤ 255) (hy : ∀ x ∈ ys, 0 ≤ x ∧ x ≤ 255) (h : strOfNums xs = strOfNums ys) : xs = ys := by
  have h2 := congrArg (fun b => b.data.toList) h
  simp only [strOfNums_data] at h2
  clear h
  induction xs generalizing ys with
  | nil => cases ys with
    | nil => rfl
    | cons y t => simp at h2
  | cons x t ih => cases ys with
    | nil => simp at h2
    | cons y u =>
      simp only [List.map_cons, List.cons.injEq] at h2
      have h3 := congrArg UInt8.toNat h2.1
      have b1 := hx x (by simp)
      have b2 := hy y (by simp)
      simp [UInt8.toNat_ofNat'] at h3
      have : x = y := by omega
      rw [this, ih (fun z hz => hx z (by simp [hz])) (fun z hz => hy z (by simp [hz])) h2.2]
theorem toList_inj {a b : ByteArray} (h : a.toList = b.toList) : a = b := by
  rw [ByteArray.toList_eq, ByteArray.toList_eq] at h
  exact ByteArray.ext (Array.toList_inj.1 h)
set_option maxRecDepth 100000 in
theorem bytes_eq (w : World) (va vb : Value) (xs ys : List Int) (ha : Rd w 1 va xs.length (bytesV xs)) (hb : Rd w 1 vb ys.length (bytesV ys)) (hx : ∀ x ∈ xs, 0 ≤ x ∧ x ≤ 255) (hy : ∀ x ∈ ys, 0 ≤ x ∧ x ≤ 255) :
    Calls Try.prog 6 #[va, vb] w fun e w' => e = .returned (.bool (decide (xs = ys))) ∧ w' = w := by
  have h1 := rd_string w va xs ha
  have h2 := rd_string w vb ys hb
  have hd : Hid (((strOfNums xs).toList == (strOfNums ys).toList) = decide (xs = ys)) := Lib.hid (by
    rw [Bool.eq_iff_iff]
    simp only [beq_iff_eq, decide_eq_true_eq]
    refine ⟨fun h => strOfNums_inj hx hy (toList_inj h), fun h => by rw [h]⟩)
  clear ha hb hx hy
  go_enter Try.func6, Try.ntmps6
  go_wp2
  go_ret
  refine ⟨?_, rfl⟩
  show Ending.returned (Value.bool _) = _
  rw [hd.out]
end Go.Proofs.Ytmekakecdgblaaa
