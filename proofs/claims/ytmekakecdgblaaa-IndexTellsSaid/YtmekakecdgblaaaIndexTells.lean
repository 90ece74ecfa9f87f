
/-
  IndexTells: any entries, any bytes, any time: the text, the entries, the place, by the program and by the document.
-/
import Derived.Test.YtmekakecdgblaaaIdx5
namespace Go.Proofs.Ytmekakecdgblaaa
open Go.RowKit
set_option linter.unusedVariables false
set_option linter.unusedSimpArgs false

set_option maxRecDepth 100000 in
set_option maxHeartbeats 4000000 in
theorem IndexTells_l (w : World) (a : Option Addr) (c : Nat) (l : List En) (h : EnR w a l) (hok : ∀ e ∈ l, e.ok) (vb : Value) (B : List Int) (hb : By w vb B) (t : Nat) :
    Calls Try.prog 3 #[.slice a l.length c, vb, .int .u64 t] w fun e w' => e = .returned (.bool true) ∧ Chg w w' nob := by
  have HA := Lib.hid h
  have HOK := Lib.hid hok
  have HB := Lib.hid hb
  obtain ⟨ab, cb, rfl, _⟩ := hb.form
  obtain ⟨D, hD⟩ : ∃ D, decE B.length B = D := ⟨_, rfl⟩
  have HD := Lib.hid hD
  obtain ⟨k, hk⟩ : ∃ k, findN l t l.length = k := ⟨_, rfl⟩
  have HK := Lib.hid hk
  have hkk : (k == k) = true := beq_self_eq_true k
  clear h hok hb hD hk
  go_enter Try.func3, Try.ntmps3
  have HC : Hid (Chg w w nob) := Lib.hid (Chg.refl _ _)
  go_wp2_with fail
  go_at_call 5
  refine (ifirst_any w).mono ?_
  rintro e' w1 ⟨rfl, hck⟩
  replace HC := Lib.hid (HC.out.trans hck (fun _ _ h => h))
  clear hck
  by_cases hl : l.length ≤ 200
  · have hli : ¬ (200 : Int) < (l.length : Int) := by omega
    by_cases hbl : B.length ≤ 3000
    · have hbi : ¬ (3000 : Int) < (B.length : Int) := by omega
      have HDL : Hid (D.length ≤ 3000) := Lib.hid (by rw [← HD.out]; exact Nat.le_trans (decE_len _ _) hbl)
      have HEL := Lib.hid (encE_len l HOK.out)
      go_wp2_with fail
      go_at_call 5
      refine (ifirst_any w1).mono ?_
      rintro e' w2 ⟨rfl, hck⟩
      replace HC := Lib.hid (HC.out.trans hck (fun _ _ h => h))
      clear hck
      go_wp2_with fail
      go_at_call 7
      refine (encode_any w2 a c l (HA.out.kept HC.out) HOK.out (by omega)).mono ?_
      rintro e' w3 ⟨v3, rfl, hbx⟩
      have HX := Lib.hid (By.ofBx hbx (encE_byte l))
      replace HC := Lib.hid (HC.out.trans hbx.2.1 (fun _ _ h => h))
      clear hbx
      go_wp2_with fail
      go_at_call 9
      refine (eplain_any w3 a c l (HA.out.kept HC.out) (by omega)).mono ?_
      rintro e' w4 ⟨v4, rfl, hn⟩
      obtain ⟨a4, c4, rfl⟩ := hn.form
      have HP := Lib.hid hn.enr
      replace HX := Lib.hid (HX.out.kept hn.2.1)
      replace HC := Lib.hid (HC.out.trans hn.2.1 (fun _ _ h => h))
      clear hn
      go_wp2_with fail
      go_at_call 8
      refine (rencode_any w4 a4 c4 l HP.out HOK.out (by omega)).mono ?_
      rintro e' w5 ⟨v5, rfl, hbx⟩
      have HY := Lib.hid (By.ofBx hbx (encE_byte l))
      replace HX := Lib.hid (HX.out.kept hbx.2.1)
      replace HC := Lib.hid (HC.out.trans hbx.2.1 (fun _ _ h => h))
      clear hbx HP
      go_wp2_with fail
      go_at_call 6
      refine (bytes_by HX.out HY.out).mono ?_
      rw [decide_eq_true (rfl : encE l = encE l)]
      rintro e' w5' ⟨rfl, rfl⟩
      clear HX HY
      go_wp2_with fail
      go_at_call 11
      refine (decode_any w5 _ B (HB.out.kept HC.out) (by omega)).mono ?_
      rw [HD.out]
      rintro e' w6 ⟨v6, rfl, hn⟩
      obtain ⟨a6, c6, rfl⟩ := hn.form
      have HP := Lib.hid hn.enr
      replace HC := Lib.hid (HC.out.trans hn.2.1 (fun _ _ h => h))
      clear hn
      go_wp2_with fail
      go_at_call 9
      refine (eplain_any w6 a6 c6 D HP.out (by have := HDL.out; omega)).mono ?_
      rintro e' w7 ⟨v7, rfl, hn⟩
      obtain ⟨a7, c7, rfl⟩ := hn.form
      have HQ := Lib.hid hn.enr
      replace HC := Lib.hid (HC.out.trans hn.2.1 (fun _ _ h => h))
      clear hn HP
      go_wp2_with fail
      go_at_call 12
      refine (rdecode_any w7 _ B (HB.out.kept HC.out) (by omega)).mono ?_
      rw [HD.out]
      rintro e' w8 ⟨v8, rfl, hn⟩
      obtain ⟨a8, c8, rfl⟩ := hn.form
      have HP := Lib.hid hn.enr
      replace HQ := Lib.hid (HQ.out.kept hn.2.1)
      replace HC := Lib.hid (HC.out.trans hn.2.1 (fun _ _ h => h))
      clear hn
      go_wp2_with fail
      go_at_call 10
      refine (sameents_any w8 a7 a8 c7 c8 D D HQ.out HP.out (by have := HDL.out; omega) (by have := HDL.out; omega)).mono ?_
      rw [decide_eq_true (rfl : D = D)]
      rintro e' w9 ⟨rfl, hck⟩
      replace HC := Lib.hid (HC.out.trans hck (fun _ _ h => h))
      clear hck HP HQ
      go_wp2_with fail
      go_at_call 13
      have h := find_any w9 a c l (HA.out.kept HC.out) (by omega) t
      rw [HK.out] at h
      refine h.mono ?_
      rintro e' w10 ⟨rfl, hck⟩
      replace HC := Lib.hid (HC.out.trans hck (fun _ _ h => h))
      clear hck h
      go_wp2_with fail
      go_at_call 9
      refine (eplain_any w10 a c l (HA.out.kept HC.out) (by omega)).mono ?_
      rintro e' w11 ⟨v11, rfl, hn⟩
      obtain ⟨a11, c11, rfl⟩ := hn.form
      have HP := Lib.hid hn.enr
      replace HC := Lib.hid (HC.out.trans hn.2.1 (fun _ _ h => h))
      clear hn
      go_wp2_with fail
      go_at_call 14
      have h := rfind_any w11 a11 c11 l HP.out (by omega) t
      rw [HK.out] at h
      refine h.mono ?_
      rintro e' w12 ⟨rfl, rfl⟩
      clear h
      go_wp2
      go_ret
      exact ⟨rfl, HC.out⟩
    · have hbi : (3000 : Int) < (B.length : Int) := by omega
      go_wp2_with fail
      go_at_call 5
      refine (ifirst_any w1).mono ?_
      rintro e' w2 ⟨rfl, hck⟩
      replace HC := Lib.hid (HC.out.trans hck (fun _ _ h => h))
      clear hck
      go_wp2
      go_ret
      exact ⟨rfl, HC.out⟩
  · have hli : (200 : Int) < (l.length : Int) := by omega
    go_wp2_with fail
    go_at_call 5
    refine (ifirst_any w1).mono ?_
    rintro e' w2 ⟨rfl, hck⟩
    replace HC := Lib.hid (HC.out.trans hck (fun _ _ h => h))
    clear hck
    go_wp2
    go_ret
    exact ⟨rfl, HC.out⟩
theorem IndexTells_walk (w : World) (a0 : Option Addr) (len0 cap0 : Nat)
    (hr0 : ∀ i, i < len0 → ∃ b o, a0 = some ⟨b, o, none⟩ ∧ ∀ j k, ([.u64, .u64, .i64, .i64] : List IntKind)[j]? = some k → ∃ z, w.cell? ⟨b, o + i * ([.u64, .u64, .i64, .i64] : List IntKind).length + j, none⟩ = some (.int k z) ∧ (Lit.int k z).wf = true)
    (a1 : Option Addr) (len1 cap1 : Nat) (l1 : List Int) (hr1 : Rd w 1 (.slice a1 len1 cap1) len1 (l1.map (Value.int .u8))) (hl1 : l1.length = len1) (y1 : len1 * 1 ≤ 140737488351232) (w1 : ∀ x ∈ l1, 0 ≤ x ∧ x ≤ 255) (nk1 : NilOk (.slice a1 len1 cap1))
    (a2 : Int) (w2 : 0 ≤ a2 ∧ a2 ≤ 18446744073709551615) :
    Calls Try.prog 3 #[.slice a0 len0 cap0, .slice a1 len1 cap1, .int .u64 a2] w fun e w' => e = .returned (.bool true) ∧ Chg w w' nob := by
  obtain ⟨l, hl, hok, hr⟩ := ents_open len0 hr0
  subst hl hl1
  obtain ⟨t, rfl⟩ : ∃ t : Nat, a2 = (t : Int) := ⟨a2.toNat, by omega⟩
  exact IndexTells_l w a0 cap0 l hr hok _ l1 ⟨hr1, nk1, w1⟩ t
end Go.Proofs.Ytmekakecdgblaaa
