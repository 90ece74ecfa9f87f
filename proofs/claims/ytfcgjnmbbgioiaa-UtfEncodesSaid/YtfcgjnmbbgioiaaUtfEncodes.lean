/-
  Chapter 3: the walk of UtfEncodes.
-/
import Derived.Test.YtfcgjnmbbgioiaaUtf9
import Derived.Deep.DeepCutAuto
import Derived.Deep.CutBlock
namespace Go.Proofs.Ytfcgjnmbbgioiaa
open Go.RowKit
set_option linter.unusedVariables false
set_option linter.unusedSimpArgs false
attribute [local go_sem ↓] run_cut_lh


set_option maxRecDepth 100000 in
set_option maxHeartbeats 8000000 in
theorem UtfEncodes_walk (a0 : Option Addr) (len0 cap0 : Nat) (w : World) (l0 : List Int)
    (hr0 : Rd w 1 (.slice a0 len0 cap0) len0 (l0.map (Value.int .i32))) (hl0 : l0.length = len0) (y0 : len0 * 4 ≤ 140737488351232)
    (w0 : ∀ x ∈ l0, -2147483648 ≤ x ∧ x ≤ 2147483647) :
    Calls Try.prog 5 #[.slice a0 len0 cap0] w fun e w' => e = .returned (.bool true) ∧ Chg w w' nob := by
  by_cases hl : len0 ≤ 2000
  · subst hl0
    have HW0 := Lib.hid w0
    have HR0 : Hid (Rd w 1 (.slice a0 l0.length cap0) l0.length (runesV l0)) := Lib.hid hr0
    have hcp : l0.length ≤ cap0 := by obtain ⟨_, _, hv, h, _⟩ := hr0; cases hv; exact h
    clear hr0 w0
    have hn0 : ¬ (2000 : Int) < (l0.length : Int) := by omega
    go_enter Try.func5, Try.ntmps5
    go_wp2_with fail
    go_at_call 9
    refine (ufirst_any w).mono ?_
    rintro e wA ⟨rfl, hwA⟩
    have HA := Lib.hid hwA
    clear hwA
    go_wp2_with fail
    go_loopw [3] (fun i wr => ∃ k : Nat, k ≤ l0.length ∧ i = .int .i64 k ∧ Hid (Chg w wr nob)) (fun i _ => l0.length - (intOf i).toNat)
    case atStart => exact ⟨0, Nat.zero_le _, rfl, HA.out⟩
    case round =>
      obtain ⟨k, hk, rfl, HI⟩ := hrel
      by_cases hkl : k < l0.length
      · have hki : (k : Int) < (l0.length : Int) := by omega
        have hk1 : (k : Int) + 1 ≤ (cap0 : Int) := by omega
        have hk2 : (k : Int) ≤ (k : Int) + 1 := by omega
        have hk0 : (0 : Int) ≤ (k : Int) + 1 := by omega
        have hwr : IntKind.i64.wrap ((k : Int) + 1) = (k : Int) + 1 := by simp only [IntKind.wrap, IntKind.bits, IntKind.signed]; simp; omega
        have HX := Lib.hid (HR0.out.cut (l := k) (m := k + 1) (by omega) (by omega))
        obtain ⟨g, o, rfl, hcx⟩ := HR0.out.cell (j := k) (u := .int .i32 (l0.getD k 0)) (by simp [runesV, List.getD, hkl])
        have hcr := HI.out.cell hcx id
        have hts : (l0.take (k + 1)).drop k = [l0.getD k 0] := by rw [take_snoc hkl (0 : Int), List.drop_append_of_le_length (by simp; omega)]; simp [List.drop_take]
        have hrb := HW0.out (l0.getD k 0) (by simp [List.getD, hkl])
        generalize l0.getD k 0 = r at *
        have HTS := Lib.hid hts
        clear hts hcx
        go_wp2_with fail
        refine wp_one [3] [4, 10] [] [0, 1, 2, 3, 5, 6, 7, 8, 9, 4, 10, 11, 12] rfl (by kernel_rfl) (fun _ _ _ _ _ h => h) ?_; simp only [List.map_cons, List.map_nil, List.getElem?_toArray, List.getElem?_cons_zero, List.getElem?_cons_succ]
        (repeat (first | (apply can0; (· rfl); (· rfl); (· (intro w'; first | (go_simp; with_reducible rfl) | (go_simp; done))); simp only [Act.put, List.setIfInBounds_toArray, List.set_cons_zero, List.set_cons_succ]) | (apply can1; (· rfl); (· rfl); (· (first | (go_simp; with_reducible rfl) | (go_simp; done))); simp only [Act.put, List.setIfInBounds_toArray, List.set_cons_zero, List.set_cons_succ]) | (apply canN; (· rfl); (· rfl); simp only [Act.put, List.setIfInBounds_toArray, List.set_cons_zero, List.set_cons_succ]) | (apply canN1; (· rfl); (· rfl); simp only [Act.put, List.setIfInBounds_toArray, List.set_cons_zero, List.set_cons_succ]) | (apply can0; (· rfl); (· (go_simp; done)); (· (intro w'; first | (go_simp; with_reducible rfl) | (go_simp; done))); simp only [Act.put, List.setIfInBounds_toArray, List.set_cons_zero, List.set_cons_succ]) | (apply can1; (· rfl); (· (go_simp; done)); (· (first | (go_simp; with_reducible rfl) | (go_simp; done))); simp only [Act.put, List.setIfInBounds_toArray, List.set_cons_zero, List.set_cons_succ]) | (apply canN; (· rfl); (· (go_simp; done)); simp only [Act.put, List.setIfInBounds_toArray, List.set_cons_zero, List.set_cons_succ]) | (apply canN1; (· rfl); (· (go_simp; done)); simp only [Act.put, List.setIfInBounds_toArray, List.set_cons_zero, List.set_cons_succ])))
        refine canW rfl [] rfl (fun K hK => ?_)
        go_simp
        go_at_call 17
        refine (size_any _ r).mono ?_
        rintro e w' ⟨rfl, rfl⟩
        (refine hK _ _ (fun u hu => by cases hu) ?_; clear hK K; try simp only [Act.put, List.setIfInBounds_toArray, List.set_cons_zero, List.set_cons_succ])
        (repeat (first | (apply can0; (· rfl); (· rfl); (· (intro w'; first | (go_simp; with_reducible rfl) | (go_simp; done))); simp only [Act.put, List.setIfInBounds_toArray, List.set_cons_zero, List.set_cons_succ]) | (apply can1; (· rfl); (· rfl); (· (first | (go_simp; with_reducible rfl) | (go_simp; done))); simp only [Act.put, List.setIfInBounds_toArray, List.set_cons_zero, List.set_cons_succ]) | (apply canN; (· rfl); (· rfl); simp only [Act.put, List.setIfInBounds_toArray, List.set_cons_zero, List.set_cons_succ]) | (apply canN1; (· rfl); (· rfl); simp only [Act.put, List.setIfInBounds_toArray, List.set_cons_zero, List.set_cons_succ]) | (apply can0; (· rfl); (· (go_simp; done)); (· (intro w'; first | (go_simp; with_reducible rfl) | (go_simp; done))); simp only [Act.put, List.setIfInBounds_toArray, List.set_cons_zero, List.set_cons_succ]) | (apply can1; (· rfl); (· (go_simp; done)); (· (first | (go_simp; with_reducible rfl) | (go_simp; done))); simp only [Act.put, List.setIfInBounds_toArray, List.set_cons_zero, List.set_cons_succ]) | (apply canN; (· rfl); (· (go_simp; done)); simp only [Act.put, List.setIfInBounds_toArray, List.set_cons_zero, List.set_cons_succ]) | (apply canN1; (· rfl); (· (go_simp; done)); simp only [Act.put, List.setIfInBounds_toArray, List.set_cons_zero, List.set_cons_succ])))
        refine canW rfl [] rfl (fun K hK => ?_)
        go_simp
        go_at_call 18
        have hx1 : Rd wr.drew 1 (.slice (addS (some ⟨g, o, none⟩) cap0 k) 1 (cap0 - k)) ([r] : List Int).length (runesV [r]) := by
          have h := HX.out.kept HI.out.drew (fun _ _ => id)
          have e1 : k + 1 - k = 1 := by omega
          have e2 : ((runesV l0).take (k + 1)).drop k = runesV [r] := by rw [runesV, ← List.map_take, ← List.map_drop, HTS.out]; rfl
          rw [e1, e2] at h
          exact h
        refine (refEncode_any wr.drew _ [r] hx1 (by simp)).mono ?_
        rintro e wB ⟨vb, rfl, hoB, hcB, -⟩
        have HB := Lib.hid (HI.out.drew.trans hcB fun _ _ h => h)
        have hq : ((encL [r]).length : Int) = sizeR r := by
          have : encL [r] = encS (fixR r) := by simp [encL, encR]
          rw [this, encS_len (fixR_sign r), ← sizeR_fix]
        obtain ⟨ab, cb, rfl, _⟩ := hoB.form
        rw [← hq]
        generalize (encL [r]).length = q at *
        clear hoB hcB hx1 hq hcr
        have hqq : ((q : Int) != (q : Int)) = false := by simp
        (refine hK _ _ (fun u hu => by cases hu) ?_; clear hK K; try simp only [Act.put, List.setIfInBounds_toArray, List.set_cons_zero, List.set_cons_succ])
        (repeat (first | (apply can0; (· rfl); (· rfl); (· (intro w'; first | (go_simp; with_reducible rfl) | (go_simp; done))); simp only [Act.put, List.setIfInBounds_toArray, List.set_cons_zero, List.set_cons_succ]) | (apply can1; (· rfl); (· rfl); (· (first | (go_simp; with_reducible rfl) | (go_simp; done))); simp only [Act.put, List.setIfInBounds_toArray, List.set_cons_zero, List.set_cons_succ]) | (apply canN; (· rfl); (· rfl); simp only [Act.put, List.setIfInBounds_toArray, List.set_cons_zero, List.set_cons_succ]) | (apply canN1; (· rfl); (· rfl); simp only [Act.put, List.setIfInBounds_toArray, List.set_cons_zero, List.set_cons_succ]) | (apply can0; (· rfl); (· (go_simp; done)); (· (intro w'; first | (go_simp; with_reducible rfl) | (go_simp; done))); simp only [Act.put, List.setIfInBounds_toArray, List.set_cons_zero, List.set_cons_succ]) | (apply can1; (· rfl); (· (go_simp; done)); (· (first | (go_simp; with_reducible rfl) | (go_simp; done))); simp only [Act.put, List.setIfInBounds_toArray, List.set_cons_zero, List.set_cons_succ]) | (apply canN; (· rfl); (· (go_simp; done)); simp only [Act.put, List.setIfInBounds_toArray, List.set_cons_zero, List.set_cons_succ]) | (apply canN1; (· rfl); (· (go_simp; done)); simp only [Act.put, List.setIfInBounds_toArray, List.set_cons_zero, List.set_cons_succ])))
        refine canE ?_
        go_wp2
        go_roundw
        case rel => exact ⟨k + 1, by omega, by go_num, HB.out⟩
        case measure => simp [intOf]; omega
      · obtain rfl : k = l0.length := by omega
        have hlb := encL_len l0
        go_wp2_with fail
        go_at_call 9
        refine (ufirst_any wr).mono ?_
        rintro e wB ⟨rfl, hwB⟩
        have HB := Lib.hid (HI.out.trans hwB fun _ _ h => h)
        clear hwB
        go_wp2_with fail
        go_at_call 20
        refine (encode_any wB _ l0 (HR0.out.kept HB.out fun _ _ => id) HW0.out (by omega)).mono ?_
        rintro e wC ⟨vb, rfl, hoC, hcC, -⟩
        have HC := Lib.hid (show Own wC 5 1 vb (encL l0).length (bytesV (encL l0)) ∧ Chg w wC nob from ⟨hoC, HB.out.trans hcC fun _ _ h => h⟩)
        clear hoC hcC
        go_wp2_with fail
        go_at_call 18
        refine (refEncode_any wC _ l0 (HR0.out.kept HC.out.2 fun _ _ => id) (by omega)).mono ?_
        rintro e wD ⟨vc, rfl, hoD, hcD, -⟩
        have HD := Lib.hid (show Own wD 5 1 vb (encL l0).length (bytesV (encL l0)) ∧ Own wD 5 1 vc (encL l0).length (bytesV (encL l0)) ∧ Chg w wD nob from ⟨HC.out.1.kept hcD (fun _ _ => id), hoD, HC.out.2.trans hcD fun _ _ h => h⟩)
        clear hoD hcD HC
        go_wp2_with fail
        go_at_call 19
        refine (bytes_eq wD vb vc (encL l0) (encL l0) HD.out.1.rd HD.out.2.1.rd (encL_byte l0) (encL_byte l0)).mono ?_
        rintro e w' ⟨rfl, rfl⟩
        rw [decide_eq_true rfl]
        go_wp2
        go_ret
        exact ⟨rfl, HD.out.2.2⟩
  · have hn0 : (2000 : Int) < (len0 : Int) := by omega
    go_enter Try.func5, Try.ntmps5
    go_wp2_with fail
    go_at_call 9
    refine (ufirst_any w).mono ?_
    rintro e wA ⟨rfl, hwA⟩
    have HA := Lib.hid hwA
    clear hwA
    go_wp2_with fail
    go_at_call 9
    refine (ufirst_any _).mono ?_
    rintro e wB ⟨rfl, hwB⟩
    go_wp2
    go_ret
    exact ⟨rfl, HA.out.trans hwB fun _ _ h => h⟩
end Go.Proofs.Ytfcgjnmbbgioiaa
