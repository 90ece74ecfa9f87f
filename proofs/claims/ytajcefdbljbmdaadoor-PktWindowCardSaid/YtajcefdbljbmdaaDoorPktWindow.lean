/-
  PktWindow: any numbers in any order.
-/
import Derived.Test.YtajcefdbljbmdaaDoorPk6
namespace Go.Proofs.YtajcefdbljbmdaaDoor
open Go.RowKit
set_option linter.unusedVariables false
set_option linter.unusedSimpArgs false

attribute [local go_sem ↓] run_min_two run_max_two
set_option maxRecDepth 100000 in
set_option maxHeartbeats 1500000 in
theorem PktWindow_walk (a0 : Int) (a1 : Option Addr) (len1 cap1 : Nat) (w : World) (l1 : List Int)
    (hr1 : Rd w 1 (.slice a1 len1 cap1) len1 (l1.map (Value.int .u64))) (hl1 : l1.length = len1) (y1 : len1 * 8 ≤ 140737488351232)
    (w0 : 0 ≤ a0 ∧ a0 ≤ 18446744073709551615) (w1 : ∀ x ∈ l1, 0 ≤ x ∧ x ≤ 18446744073709551615) (nk1 : NilOk (.slice a1 len1 cap1)) (ht : Tab w) :
    Calls Tryd.prog 6 #[.int .u64 a0, .slice a1 len1 cap1] w fun e w' => e = .returned (.bool true) ∧ Chg w w' nob := by
  subst hl1
  have HR1 := Lib.hid hr1
  have HT := Lib.hid ht
  have i1 : (0 : Int) ≤ (l1.length : Int) := by omega
  clear hr1 ht w1 nk1
  go_enter Tryd.func6, Tryd.ntmps6
  go_wp2_with fail
  go_at_call 23
  refine (first25_any w HT.out).mono ?_
  rintro e u1 ⟨rfl, hu1⟩
  have HU1 := Lib.hid hu1
  clear hu1
  go_wp2_with fail
  go_at_call 24
  refine (newwin_any u1 a0).mono ?_
  rintro e u2 ⟨g, rfl, hw2, hc2, hg2⟩
  have HW2 := Lib.hid hw2
  have HC2 : Hid (Chg w u2 nob) := Lib.hid (HU1.out.trans hc2 (fun _ _ h => h))
  have HG : Hid (w.heap.size ≤ g) := Lib.hid (Nat.le_trans HU1.out.size hg2)
  clear hw2 hc2 hg2
  by_cases h3 : l1.length ≤ 300
  · have h3i : (l1.length : Int) ≤ 300 := by omega
    go_wp2_with fail
    go_loopw [0, 6, 7, 8] (fun mv iv _ _ wr => ∃ (i : Nat) (m : Int), i ≤ l1.length ∧ mv = .int .u64 m ∧ iv = .int .i64 i ∧ Hid (Win wr g m) ∧ Hid (Chg w wr nob)) (fun _ iv _ _ _ => l1.length - (intOf iv).toNat)
    case atStart => exact ⟨0, a0, by omega, rfl, rfl, HW2, HC2⟩
    case round =>
      obtain ⟨i, m, hi, rfl, rfl, HW, HC⟩ := hrel
      clear HW2 HC2
      by_cases hil : i < l1.length
      · have hii : (i : Int) < (l1.length : Int) := by omega
        have hi0 : (0 : Int) ≤ (i : Int) := by omega
        obtain ⟨gk, ok, rfl, hck⟩ := HR1.out.cell (j := i) (u := .int .u64 (l1.getD i 0)) (by simp [List.getD, hil])
        obtain ⟨x, hx⟩ : ∃ x, l1.getD i 0 = x := ⟨_, rfl⟩
        rw [hx] at hck
        have CK := Lib.hid hck
        have hc0 := HC.out.cell hck id
        clear hck hx
        obtain ⟨T, hT⟩ : ∃ T, takeL m x = T := ⟨_, rfl⟩
        have HTK := Lib.hid hT
        have HMX : Hid (mxI m x = T) := Lib.hid (by rw [← hT]; unfold mxI takeL; rfl)
        clear hT
        obtain ⟨bb, hbb⟩ : ∃ b, decide (m < x) = b := ⟨_, rfl⟩
        have HBB := Lib.hid hbb
        have HTE : Hid (takeE m x = if bb then 0 else 14) := Lib.hid (by rw [← hbb]; unfold takeE; by_cases h : m < x <;> simp [h])
        go_wp2_with fail
        go_at_call 25
        refine (fresh_any wr g m x HW.out).mono ?_
        rw [HBB.out]
        rintro e y ⟨rfl, rfl⟩
        go_wp2_with fail
        go_at_call 26
        refine (wtake_any wr g m x HW.out).mono ?_
        rw [HTE.out, HTK.out]
        rintro e u5 ⟨rfl, hw5, hc5⟩
        have HW5 := Lib.hid hw5
        have HC5 : Hid (Chg w u5 nob) := Lib.hid (HC.out.trans hc5 (fun i hi h => by have h1 := HG.out; omega))
        have hc6 := HC5.out.cell CK.out id
        clear hw5 hc5 HW HC hc0
        cases bb
        · have hbm : decide (m < x) = false := HBB.out
          have hnm : ¬ m < x := of_decide_eq_false hbm
          rw [if_neg (by decide)]
          go_wp2_with fail
          rw [HMX.out]
          go_at_call 27
          refine (last_any u5 g T HW5.out).mono ?_
          rintro e y ⟨rfl, rfl⟩
          go_wp2
          go_roundw
          case rel => exact ⟨i + 1, T, by omega, rfl, by go_num, HW5, HC5⟩
          case measure => simp [intOf]; omega
        · have hbm : decide (m < x) = true := HBB.out
          have hnm : m < x := of_decide_eq_true hbm
          rw [if_pos rfl]
          go_wp2_with fail
          rw [HMX.out]
          go_at_call 27
          refine (last_any u5 g T HW5.out).mono ?_
          rintro e y ⟨rfl, rfl⟩
          go_wp2
          go_roundw
          case rel => exact ⟨i + 1, T, by omega, rfl, by go_num, HW5, HC5⟩
          case measure => simp [intOf]; omega
      · obtain rfl : i = l1.length := by omega
        go_wp2_with fail
        go_at_call 23
        refine (first25_any wr (HT.out.kept HC.out id)).mono ?_
        rintro e u9 ⟨rfl, hu9⟩
        have HU9 := Lib.hid hu9
        clear hu9
        go_wp2
        go_ret
        exact ⟨rfl, HC.out.trans HU9.out (fun _ _ h => h)⟩
  · have h3i : (300 : Int) < (l1.length : Int) := by omega
    go_wp2_with fail
    go_at_call 23
    refine (first25_any u2 (HT.out.kept HC2.out id)).mono ?_
    rintro e u9 ⟨rfl, hu9⟩
    have HU9 := Lib.hid hu9
    clear hu9
    go_wp2
    go_ret
    exact ⟨rfl, HC2.out.trans HU9.out (fun _ _ h => h)⟩
end Go.Proofs.YtajcefdbljbmdaaDoor
