
/-
  The document's screens: may cells stand so, may a title, a screen be.
-/
import Derived.Test.YtioabdoghophlaaDoorRS
namespace Go.Proofs.YtioabdoghophlaaDoor
open Go.RowKit
set_option linter.unusedVariables false
set_option linter.unusedSimpArgs false

set_option maxRecDepth 100000 in
set_option maxHeartbeats 8000000 in
theorem rmended_any (w : World) (r c : Int) (va : Value) (l : List Ce) (ha : Rd w 5 va l.length (cellsV l)) (hl : l.length ≤ 1000000) :
    Calls Tryd.prog 93 #[.int .i64 r, .int .i64 c, va] w fun e w' => e = .returned (.bool (mendF r c l)) ∧ Chg w w' nob := by
  obtain ⟨a1, c1, rfl, hn1, _⟩ := ha.form
  have HC := Lib.hid ha
  clear ha
  by_cases hf : 1 ≤ r ∧ r ≤ 60 ∧ 1 ≤ c ∧ c ≤ 200
  · obtain ⟨h1, h2, h3, h4⟩ := hf
    obtain ⟨rn, rfl⟩ : ∃ rn : Nat, r = rn := ⟨r.toNat, by omega⟩
    obtain ⟨cn, rfl⟩ : ∃ cn : Nat, c = cn := ⟨c.toNat, by omega⟩
    have hft : Hid (fitsF rn cn = true) := Lib.hid (by simp [fitsF]; omega)
    have hm1 : rn * cn ≤ 60 * 200 := Nat.mul_le_mul (by omega) (by omega)
    obtain ⟨m, hm⟩ : ∃ m, rn * cn = m := ⟨_, rfl⟩
    have hmb : m ≤ 12000 := by omega
    have hmm : (rn : Int) * (cn : Int) = (m : Int) := by rw [← hm]; simp
    have hw : IntKind.i64.wrap ((rn : Int) * (cn : Int)) = (m : Int) := by rw [hmm]; simp only [IntKind.wrap, IntKind.bits, IntKind.signed]; simp; omega
    by_cases hlm : l.length = m
    · have hme : mendF rn cn l = (List.range l.length).all (okC cn l) := by
        rw [mendF, hft.out, hmm, hlm]; simp
      rw [hme]
      clear hme
      obtain ⟨R, hR⟩ : ∃ R, (List.range l.length).all (okC cn l) = R := ⟨_, rfl⟩
      have good : Hid ((∀ j, j < m → okC cn l j = true) → R = true) := Lib.hid (fun h => by rw [← hR]; simpa [hlm] using h)
      have bad : Hid (∀ j, j < m → okC cn l j = false → R = false) := Lib.hid (fun j hj h => by rw [← hR]; simp only [List.all_eq_false, List.mem_range]; exact ⟨j, by omega, by simp [h]⟩)
      rw [hR]
      clear hR
      have HLM := Lib.hid hlm
      go_enter Tryd.func93, Tryd.ntmps93
      go_wp2_with fail
      go_at_call 115
      refine (rfits_any w rn cn).mono ?_
      rw [hft.out]
      rintro e w1 ⟨rfl, rfl⟩
      rw [hlm] at HC hn1 ⊢
      have HM := Lib.hid hm
      clear hlm hm hmm hft
      go_wp2
      go_loopw [7, 8] (fun iv cv wr => ∃ k : Nat, k ≤ m ∧ iv = .int .i64 k ∧ Hid (∀ j, j < k → okC cn l j = true) ∧ Hid (Chg w1 wr nob)) (fun iv _ _ => m - (intOf iv).toNat)
      case atStart => exact ⟨0, Nat.zero_le _, rfl, Lib.hid (fun j hj => by omega), Lib.hid (Chg.refl _ _)⟩
      case round =>
        obtain ⟨k, hk, rfl, HO, HCH⟩ := hrel
        by_cases hkl : k < m
        · have hkn : (k : Int) < (m : Int) := by omega
          have hk0 : (0 : Int) ≤ (k : Int) := by omega
          obtain ⟨cc, hcc⟩ : ∃ cc, l[k]? = some cc := ⟨l[k]'(by rw [HLM.out]; exact hkl), List.getElem?_eq_getElem (by rw [HLM.out]; exact hkl)⟩
          have hrd := HC.out.kept HCH.out (fun _ _ => id)
          rw [← HLM.out] at hrd
          obtain ⟨g, o, rfl, t0, t1, t2, t3, t4⟩ := hrd.cell5 hcc
          have hgd : l.getD k .z = cc := by simp [List.getD, hcc]
          have HGD := Lib.hid hgd
          have HCC := Lib.hid hcc
          clear hrd hgd hcc
          obtain ⟨r0, f0, g0, b0, w0⟩ := cc
          simp only at t0 t1 t2 t3 t4
          obtain ⟨bf, hbf⟩ : ∃ bf, ((k : Int) % (cn : Int) == 0) = bf := ⟨_, rfl⟩
          obtain ⟨bl, hbl⟩ : ∃ bl, ((k : Int) % (cn : Int) == (cn : Int) - 1) = bl := ⟨_, rfl⟩
          have hbf' : Hid (decide (k % cn = 0) = bf) := Lib.hid (by rw [← hbf, Bool.eq_iff_iff]; simp; omega)
          have hbl' : Hid (decide (k % cn = cn - 1) = bl) := Lib.hid (by rw [← hbl, Bool.eq_iff_iff]; simp; omega)
          have hcn : ¬ cn = 0 := by omega
          have hok : Hid (okC cn l k = (Ce.may ⟨r0, f0, g0, b0, w0⟩ && (if w0 = 1 then !bl && decide ((l.getD (k + 1) .z).w = 2) else if w0 = 2 then !bf && decide ((l.getD (k - 1) .z).w = 1) else true))) := Lib.hid (by rw [okC, HGD.out, hbl'.out, hbf'.out])
          obtain ⟨km, hkm⟩ : ∃ km, Ce.may ⟨r0, f0, g0, b0, w0⟩ = km := ⟨_, rfl⟩
          rw [hkm] at hok
          have HKM := Lib.hid hkm
          have HBF := Lib.hid hbf
          have HBL := Lib.hid hbl
          clear hkm hbf hbl
          have HNX : Hid (bl = false → k + 1 < m) := Lib.hid (fun h => by
            have h1 := hbl'.out
            rw [h] at h1
            have h2 := HM.out
            rw [← h2]
            exact not_last (by omega) (by omega) (by simpa using h1))
          have HPV : Hid (bf = false → 1 ≤ k) := Lib.hid (fun h => by
            have h1 := hbf'.out
            rw [h] at h1
            exact not_first (by simpa using h1))
          go_wp2_with fail
          go_at_call 12
          refine (rmaycell_any wr ⟨r0, f0, g0, b0, w0⟩).mono ?_
          rw [HKM.out]
          rintro e w2 ⟨rfl, hc2⟩
          have HW2 : Hid (Chg w1 w2 nob) := Lib.hid (HCH.out.trans hc2 (fun _ _ h => h))
          have v4 := hc2.cell t4 id
          have hbf := HBF.out
          have hbl := HBL.out
          clear hc2 t0 t1 t2 t3 t4
          cases km
          · go_wp2
            go_ret
            exact ⟨by rw [bad.out k hkl (by rw [hok.out]; rfl)]; rfl, HW2.out⟩
          · rcases (show w0 = 1 ∨ w0 = 2 ∨ (w0 ≠ 1 ∧ w0 ≠ 2) by omega) with rfl | rfl | ⟨h5, h6⟩
            · cases bl
              · have hnx := HNX.out rfl
                obtain ⟨c2, hc2⟩ : ∃ c2, l[k + 1]? = some c2 := ⟨l[k + 1]'(by rw [HLM.out]; omega), List.getElem?_eq_getElem (by rw [HLM.out]; omega)⟩
                have hrd := HC.out.kept HW2.out (fun _ _ => id)
                rw [← HLM.out] at hrd
                obtain ⟨g', o', heq, _, _, _, _, s4⟩ := hrd.cell5 hc2
                cases heq
                rw [HLM.out] at *
                have hgd2 : l.getD (k + 1) .z = c2 := by simp [List.getD, hc2]
                rw [hgd2] at hok
                obtain ⟨r2, f2, g2, b2, d2⟩ := c2
                simp only at hok s4
                clear hgd2 hc2 hrd
                by_cases hd : d2 = 2
                · have hgo : Hid (okC cn l k = true) := Lib.hid (by rw [hok.out, hd]; rfl)
                  go_wp2
                  go_roundw
                  case rel => exact ⟨k + 1, by omega, by go_num, Lib.hid (fun j hj => by
                    rcases (show j < k ∨ j = k by omega) with h | rfl
                    · exact HO.out j h
                    · exact hgo.out), HW2⟩
                  case measure => simp [intOf]; omega
                · have hba : Hid (okC cn l k = false) := Lib.hid (by rw [hok.out]; simp [hd])
                  go_wp2
                  go_ret
                  exact ⟨by rw [bad.out k hkl hba.out]; rfl, HW2.out⟩
              · go_wp2
                go_ret
                exact ⟨by rw [bad.out k hkl (by rw [hok.out]; rfl)]; rfl, HW2.out⟩
            · cases bf
              · have hnx := HPV.out rfl
                obtain ⟨c2, hc2⟩ : ∃ c2, l[k - 1]? = some c2 := ⟨l[k - 1]'(by rw [HLM.out]; omega), List.getElem?_eq_getElem (by rw [HLM.out]; omega)⟩
                have hrd := HC.out.kept HW2.out (fun _ _ => id)
                rw [← HLM.out] at hrd
                obtain ⟨g', o', heq, _, _, _, _, s4⟩ := hrd.cell5 hc2
                cases heq
                rw [HLM.out] at *
                have hgd2 : l.getD (k - 1) .z = c2 := by simp [List.getD, hc2]
                rw [hgd2] at hok
                obtain ⟨r2, f2, g2, b2, d2⟩ := c2
                simp only at hok s4
                clear hgd2 hc2 hrd
                by_cases hd : d2 = 1
                · have hgo : Hid (okC cn l k = true) := Lib.hid (by rw [hok.out, hd]; rfl)
                  go_wp2
                  go_roundw
                  case rel => exact ⟨k + 1, by omega, by go_num, Lib.hid (fun j hj => by
                    rcases (show j < k ∨ j = k by omega) with h | rfl
                    · exact HO.out j h
                    · exact hgo.out), HW2⟩
                  case measure => simp [intOf]; omega
                · have hba : Hid (okC cn l k = false) := Lib.hid (by rw [hok.out]; simp [hd])
                  go_wp2
                  go_ret
                  exact ⟨by rw [bad.out k hkl hba.out]; rfl, HW2.out⟩
              · go_wp2
                go_ret
                exact ⟨by rw [bad.out k hkl (by rw [hok.out]; rfl)]; rfl, HW2.out⟩
            · have hgo : Hid (okC cn l k = true) := Lib.hid (by rw [hok.out, if_neg h5, if_neg h6]; rfl)
              have h5' : (w0 == 1) = false := by simpa using h5
              have h6' : (w0 == 2) = false := by simpa using h6
              go_wp2
              go_roundw
              case rel => exact ⟨k + 1, by omega, by go_num, Lib.hid (fun j hj => by
                rcases (show j < k ∨ j = k by omega) with h | rfl
                · exact HO.out j h
                · exact hgo.out), HW2⟩
              case measure => simp [intOf]; omega
        · obtain rfl : k = m := by omega
          go_wp2
          go_ret
          exact ⟨by rw [good.out HO.out]; rfl, HCH.out⟩
    · have hme : mendF rn cn l = false := by
        rw [mendF, hft.out, hmm]; simp; omega
      rw [hme]
      clear hme
      go_enter Tryd.func93, Tryd.ntmps93
      go_wp2_with fail
      go_at_call 115
      refine (rfits_any w rn cn).mono ?_
      rw [hft.out]
      rintro e w1 ⟨rfl, rfl⟩
      have hne : ¬ (l.length : Int) = (m : Int) := by omega
      go_wp2
      go_ret
      exact ⟨rfl, Chg.refl _ _⟩
  · have hft : Hid (fitsF r c = false) := Lib.hid (by simp [fitsF]; omega)
    have hme : mendF r c l = false := by rw [mendF, hft.out]; rfl
    rw [hme]
    clear hme hf
    go_enter Tryd.func93, Tryd.ntmps93
    go_wp2_with fail
    go_at_call 115
    refine (rfits_any w r c).mono ?_
    rw [hft.out]
    rintro e w1 ⟨rfl, rfl⟩
    go_wp2
    go_ret
    exact ⟨rfl, Chg.refl _ _⟩
end Go.Proofs.YtioabdoghophlaaDoor
