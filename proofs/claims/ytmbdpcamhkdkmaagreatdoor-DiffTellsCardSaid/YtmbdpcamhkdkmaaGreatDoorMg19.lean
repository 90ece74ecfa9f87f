/-
  The document's cells and screens: widths, what may be; its title.
  The document's screens: may cells stand so, may a title, a screen be.
-/
import Derived.Test.YtmbdpcamhkdkmaaGreatDoorRUM
import Derived.Test.YtmbdpcamhkdkmaaGreatDoorMg6
namespace Go.Proofs.YtmbdpcamhkdkmaaGreatDoor
open Go.RowKit
set_option linter.unusedVariables false
set_option linter.unusedSimpArgs false

set_option maxRecDepth 100000 in
theorem rin_any (w : World) (r lo hi : Int) : Calls Tryz.prog 96 #[.int .i32 r, .int .i32 lo, .int .i32 hi] w fun e w' => e = .returned (.bool (decide (lo ≤ r ∧ r ≤ hi))) ∧ w' = w := by
  rcases (show r < lo ∨ (lo ≤ r ∧ hi < r) ∨ (lo ≤ r ∧ r ≤ hi) by omega) with h | ⟨h, h'⟩ | ⟨h, h'⟩
  all_goals
    go_enter Tryz.func96, Tryz.ntmps96
    go_wp2
    go_ret
    refine ⟨?_, rfl⟩
    show Ending.returned (Value.bool _) = _
    congr 2; rw [Bool.eq_iff_iff]; simp; omega
set_option maxRecDepth 100000 in
set_option maxHeartbeats 8000000 in
theorem rwidth_any (w : World) (r : Int) : Calls Tryz.prog 83 #[.int .i32 r] w fun e w' => e = .returned (.int .i64 (widthF r)) ∧ w' = w := by
  go_enter Tryz.func83, Tryz.ntmps83
  go_wp2_with (first
    | (go_at_call 69; refine (refSign_any _ r).mono ?_; rintro e w' ⟨rfl, rfl⟩)
    | (go_at_call 96; refine (rin_any _ r _ _).mono ?_; rintro e w' ⟨rfl, rfl⟩))
  all_goals go_ret
  all_goals
    refine ⟨?_, rfl⟩
    show Ending.returned (Value.int .i64 _) = _
    congr 2
    simp only [isSign, decide_eq_true_eq, decide_eq_false_iff_not, Bool.and_eq_true, Bool.not_eq_true', Bool.and_eq_false_iff, Bool.not_eq_false', widthF, amongF, noneL, wideL, List.any_cons, List.any_nil, Bool.or_eq_true, Bool.false_eq_true, or_false] at *
    (repeat' split) <;> omega
set_option maxRecDepth 100000 in
set_option maxHeartbeats 4000000 in
theorem rmayc_any (w : World) (n : Int) : Calls Tryz.prog 97 #[.int .i64 n] w fun e w' => e = .returned (.bool (mayC n)) ∧ w' = w := by
  rcases (show n < 0 ∨ (0 ≤ n ∧ n ≤ 256) ∨ (256 < n ∧ n < 16777216) ∨ (16777216 ≤ n ∧ n < 33554432) ∨ 33554432 ≤ n by omega) with h | ⟨h, h'⟩ | ⟨h, h'⟩ | ⟨h, h'⟩ | h
  all_goals
    go_enter Tryz.func97, Tryz.ntmps97
    go_wp2
  all_goals go_ret
  all_goals (refine ⟨?_, rfl⟩; show Ending.returned (Value.bool _) = _; congr 2; rw [Bool.eq_iff_iff]; simp [mayC]; try omega)
set_option maxRecDepth 100000 in
set_option maxHeartbeats 4000000 in
theorem rmay_any (w : World) (f g b : Int) : Calls Tryz.prog 84 #[lookV f g b] w fun e w' => e = .returned (.bool (mayF f g b)) ∧ Chg w w' nob := by
  obtain ⟨k1, e1⟩ : ∃ k, mayC g = k := ⟨_, rfl⟩
  obtain ⟨k2, e2⟩ : ∃ k, mayC b = k := ⟨_, rfl⟩
  have hm : mayF f g b = (decide (0 ≤ f ∧ f ≤ 255) && k1 && k2) := by unfold mayF; rw [e1, e2]
  rw [hm]
  clear hm
  have E1 := Lib.hid e1
  have E2 := Lib.hid e2
  clear e1 e2
  rcases (show f < 0 ∨ 255 < f ∨ (0 ≤ f ∧ f ≤ 255) by omega) with h | h | ⟨h, h'⟩
  · have hd : Hid (decide (0 ≤ f ∧ f ≤ 255) = false) := Lib.hid (by simp; omega)
    rw [hd.out]
    go_enter Tryz.func84, Tryz.ntmps84
    go_wp2
    go_ret
    exact ⟨rfl, (Chg.refl w nob).alloc _⟩
  · have hd : Hid (decide (0 ≤ f ∧ f ≤ 255) = false) := Lib.hid (by simp; omega)
    have h2 : 0 ≤ f := by omega
    rw [hd.out]
    go_enter Tryz.func84, Tryz.ntmps84
    go_wp2
    go_ret
    exact ⟨rfl, (Chg.refl w nob).alloc _⟩
  · have hd : Hid (decide (0 ≤ f ∧ f ≤ 255) = true) := Lib.hid (by simp; omega)
    rw [hd.out]
    go_enter Tryz.func84, Tryz.ntmps84
    go_wp2_with fail
    go_at_call 97
    refine (rmayc_any _ g).mono ?_
    rw [E1.out]
    rintro e w' ⟨rfl, rfl⟩
    cases k1
    · go_wp2
      go_ret
      exact ⟨rfl, (Chg.refl w nob).alloc _⟩
    · go_wp2_with fail
      go_at_call 97
      refine (rmayc_any _ b).mono ?_
      rw [E2.out]
      rintro e w' ⟨rfl, rfl⟩
      cases k2
      all_goals
        go_wp2
        go_ret
        exact ⟨rfl, (Chg.refl w nob).alloc _⟩
set_option maxRecDepth 100000 in
theorem widthF_vals (r : Int) : widthF r = 0 ∨ widthF r = 1 ∨ widthF r = 2 := by unfold widthF; (repeat' split) <;> simp
set_option maxRecDepth 100000 in
set_option maxHeartbeats 8000000 in
theorem rmaycell_any (w : World) (c : Ce) : Calls Tryz.prog 61 #[c.val] w fun e w' => e = .returned (.bool c.may) ∧ Chg w w' nob := by
  obtain ⟨r, f, g, b, d⟩ := c
  simp only [Ce.val, Ce.may]
  obtain ⟨k2, e2⟩ : ∃ k, mayF f g b = k := ⟨_, rfl⟩
  rw [e2]
  have E2 := Lib.hid e2
  obtain ⟨k1, e1⟩ : ∃ k, mayF2 r d = k := ⟨_, rfl⟩
  rw [e1]
  obtain ⟨x, ex⟩ : ∃ x, widthF r = x := ⟨_, rfl⟩
  have hx : x = 0 ∨ x = 1 ∨ x = 2 := by rw [← ex]; exact widthF_vals r
  have EX := Lib.hid ex
  have hk : k1 = if d = 0 then decide (x = 1) else if d = 1 then decide (x = 2) else if d = 2 then decide (r = 0) else false := by
    rw [← e1, mayF2, ex]
    by_cases h0 : d = 0
    · subst h0; simp
    · by_cases h1 : d = 1
      · subst h1; simp
      · rw [if_neg (by omega), if_neg h0, if_neg h1]
  clear e1 e2 ex
  have HK := Lib.hid hk
  clear hk
  go_enter Tryz.func61, Tryz.ntmps61
  go_wp2_with fail
  go_at_call 83
  refine (rwidth_any _ r).mono ?_
  rw [EX.out]
  rintro e w1 ⟨rfl, rfl⟩
  go_wp2_with fail
  go_at_call 84
  refine (rmay_any _ f g b).mono ?_
  rw [E2.out]
  rintro e w2 ⟨rfl, hc2⟩
  have hb := (Blk.new w 47 _).kept hc2 id
  have H2 : Hid (Chg w w2 nob) := Lib.hid (((Chg.refl w nob).alloc _).trans hc2 (fun _ _ h => h))
  have u0 := hb.cell 0
  have u1 := hb.cell 1
  have u2 := hb.cell 2
  have u3 := hb.cell 3
  have u4 := hb.cell 4
  simp only [List.getElem?_toArray, List.getElem?_cons_zero, List.getElem?_cons_succ] at u0 u1 u2 u3 u4
  clear hc2 hb
  cases k2
  · go_wp2
    all_goals
      go_ret
      refine ⟨?_, H2.out⟩
      show Ending.returned (Value.bool _) = _
      rw [Bool.and_false]
  · rcases (show d = 0 ∨ d = 1 ∨ d = 2 ∨ (d ≠ 0 ∧ d ≠ 1 ∧ d ≠ 2) by omega) with rfl | rfl | rfl | ⟨h0, h1, h2⟩
    · rcases hx with rfl | rfl | rfl
      all_goals
        go_wp2
        go_ret
        exact ⟨by (show Ending.returned (Value.bool _) = _); rw [HK.out]; rfl, H2.out⟩
    · rcases hx with rfl | rfl | rfl
      all_goals
        go_wp2
        go_ret
        exact ⟨by (show Ending.returned (Value.bool _) = _); rw [HK.out]; rfl, H2.out⟩
    · by_cases hr : r = 0
      · subst hr
        go_wp2
        go_ret
        exact ⟨by (show Ending.returned (Value.bool _) = _); rw [HK.out]; rfl, H2.out⟩
      · have hr' : (r == 0) = false := by simpa using hr
        have hr2 : Hid (decide (r = 0) = false) := Lib.hid (by simp [hr])
        go_wp2
        go_ret
        exact ⟨by (show Ending.returned (Value.bool _) = _); rw [HK.out, hr2.out]; rfl, H2.out⟩
    · go_wp2
      go_ret
      exact ⟨by (show Ending.returned (Value.bool _) = _); rw [HK.out, if_neg h0, if_neg h1, if_neg h2]; rfl, H2.out⟩
set_option maxRecDepth 100000 in
set_option maxHeartbeats 4000000 in
theorem rfits_any (w : World) (r c : Int) : Calls Tryz.prog 68 #[.int .i64 r, .int .i64 c] w fun e w' => e = .returned (.bool (fitsF r c)) ∧ w' = w := by
  rcases (show r < 1 ∨ (1 ≤ r ∧ 60 < r) ∨ (1 ≤ r ∧ r ≤ 60 ∧ c < 1) ∨ (1 ≤ r ∧ r ≤ 60 ∧ 1 ≤ c ∧ 200 < c) ∨ (1 ≤ r ∧ r ≤ 60 ∧ 1 ≤ c ∧ c ≤ 200) by omega) with h | ⟨h1, h2⟩ | ⟨h1, h2, h3⟩ | ⟨h1, h2, h3, h4⟩ | ⟨h1, h2, h3, h4⟩
  all_goals
    first | rw [show fitsF r c = false by simp [fitsF]; omega] | rw [show fitsF r c = true by simp [fitsF]; omega]
    go_enter Tryz.func68, Tryz.ntmps68
    go_wp2
    go_ret
    exact ⟨by first | rfl | (show Ending.returned (Value.bool _) = _; congr 2; simp; omega), rfl⟩
set_option maxRecDepth 100000 in
theorem rtsign_any (w : World) (r : Int) : Calls Tryz.prog 47 #[.int .i32 r] w fun e w' => e = .returned (.bool (okSign r)) ∧ w' = w := by
  obtain ⟨b, hb⟩ : ∃ b, isSign r = b := ⟨_, rfl⟩
  have HB := Lib.hid hb
  rcases (show r < 32 ∨ (32 ≤ r ∧ r < 127) ∨ (32 ≤ r ∧ 127 ≤ r ∧ r ≤ 159) ∨ (32 ≤ r ∧ 127 ≤ r ∧ 159 < r) by omega) with h | ⟨h, h1⟩ | ⟨h, h1, h2⟩ | ⟨h, h1, h2⟩
  all_goals
    have hk : okSign r = (b && decide (32 ≤ r) && !decide (127 ≤ r ∧ r ≤ 159)) := by rw [okSign, hb]
    have HK := Lib.hid hk
    clear hk hb
    go_enter Tryz.func47, Tryz.ntmps47
    go_wp2_with fail
    go_at_call 69
    refine (refSign_any _ r).mono ?_
    rw [HB.out]
    rintro e w' ⟨rfl, rfl⟩
    cases b
    all_goals
      go_wp2
      go_ret
      refine ⟨?_, rfl⟩
      show Ending.returned (Value.bool _) = _
      congr 2
      rw [HK.out, Bool.eq_iff_iff]
      simp
      try omega
end Go.Proofs.YtmbdpcamhkdkmaaGreatDoor

namespace Go.Proofs.YtmbdpcamhkdkmaaGreatDoor
open Go.RowKit
set_option linter.unusedVariables false
set_option linter.unusedSimpArgs false

set_option maxRecDepth 100000 in
set_option maxHeartbeats 8000000 in
theorem rmended_any (w : World) (r c : Int) (va : Value) (l : List Ce) (ha : Rd w 5 va l.length (cellsV l)) (hl : l.length ≤ 1000000) :
    Calls Tryz.prog 46 #[.int .i64 r, .int .i64 c, va] w fun e w' => e = .returned (.bool (mendF r c l)) ∧ Chg w w' nob := by
  obtain ⟨a1, c1, rfl, hn1, _⟩ := ha.form
  have HC := Lib.hid ha
  clear ha
  by_cases hf : 1 ≤ r ∧ r ≤ 60 ∧ 1 ≤ c ∧ c ≤ 200
  · obtain ⟨h1, h2, h3, h4⟩ := hf
    obtain ⟨rn, rfl⟩ : ∃ rn : Nat, r = rn := ⟨r.toNat, by omega⟩
    obtain ⟨cn, rfl⟩ : ∃ cn : Nat, c = cn := ⟨c.toNat, by omega⟩
    have hft : Hid (fitsF rn cn = true) := Lib.hid (by simp [fitsF]; omega)
    have hm1 : rn * cn ≤ 60 * 200 := Nat.mul_le_mul (by omega) (by omega)
    obtain ⟨m, hm⟩ : ∃ m, rn * cn = m := ⟨_, rfl⟩
    have hmb : m ≤ 12000 := by omega
    have hmm : (rn : Int) * (cn : Int) = (m : Int) := by rw [← hm]; simp
    have hw : IntKind.i64.wrap ((rn : Int) * (cn : Int)) = (m : Int) := by rw [hmm]; simp only [IntKind.wrap, IntKind.bits, IntKind.signed]; simp; omega
    by_cases hlm : l.length = m
    · have hme : mendF rn cn l = (List.range l.length).all (okC cn l) := by
        rw [mendF, hft.out, hmm, hlm]; simp
      rw [hme]
      clear hme
      obtain ⟨R, hR⟩ : ∃ R, (List.range l.length).all (okC cn l) = R := ⟨_, rfl⟩
      have good : Hid ((∀ j, j < m → okC cn l j = true) → R = true) := Lib.hid (fun h => by rw [← hR]; simpa [hlm] using h)
      have bad : Hid (∀ j, j < m → okC cn l j = false → R = false) := Lib.hid (fun j hj h => by rw [← hR]; simp only [List.all_eq_false, List.mem_range]; exact ⟨j, by omega, by simp [h]⟩)
      rw [hR]
      clear hR
      have HLM := Lib.hid hlm
      go_enter Tryz.func46, Tryz.ntmps46
      go_wp2_with fail
      go_at_call 68
      refine (rfits_any w rn cn).mono ?_
      rw [hft.out]
      rintro e w1 ⟨rfl, rfl⟩
      rw [hlm] at HC hn1 ⊢
      have HM := Lib.hid hm
      clear hlm hm hmm hft
      go_wp2
      go_loopw [7, 8] (fun iv cv wr => ∃ k : Nat, k ≤ m ∧ iv = .int .i64 k ∧ Hid (∀ j, j < k → okC cn l j = true) ∧ Hid (Chg w1 wr nob)) (fun iv _ _ => m - (intOf iv).toNat)
      case atStart => exact ⟨0, Nat.zero_le _, rfl, Lib.hid (fun j hj => by omega), Lib.hid (Chg.refl _ _)⟩
      case round =>
        obtain ⟨k, hk, rfl, HO, HCH⟩ := hrel
        by_cases hkl : k < m
        · have hkn : (k : Int) < (m : Int) := by omega
          have hk0 : (0 : Int) ≤ (k : Int) := by omega
          obtain ⟨cc, hcc⟩ : ∃ cc, l[k]? = some cc := ⟨l[k]'(by rw [HLM.out]; exact hkl), List.getElem?_eq_getElem (by rw [HLM.out]; exact hkl)⟩
          have hrd := HC.out.kept HCH.out (fun _ _ => id)
          rw [← HLM.out] at hrd
          obtain ⟨g, o, rfl, t0, t1, t2, t3, t4⟩ := hrd.cell5 hcc
          have hgd : l.getD k .z = cc := by simp [List.getD, hcc]
          have HGD := Lib.hid hgd
          have HCC := Lib.hid hcc
          clear hrd hgd hcc
          obtain ⟨r0, f0, g0, b0, w0⟩ := cc
          simp only at t0 t1 t2 t3 t4
          obtain ⟨bf, hbf⟩ : ∃ bf, ((k : Int) % (cn : Int) == 0) = bf := ⟨_, rfl⟩
          obtain ⟨bl, hbl⟩ : ∃ bl, ((k : Int) % (cn : Int) == (cn : Int) - 1) = bl := ⟨_, rfl⟩
          have hbf' : Hid (decide (k % cn = 0) = bf) := Lib.hid (by rw [← hbf, Bool.eq_iff_iff]; simp; omega)
          have hbl' : Hid (decide (k % cn = cn - 1) = bl) := Lib.hid (by rw [← hbl, Bool.eq_iff_iff]; simp; omega)
          have hcn : ¬ cn = 0 := by omega
          have hok : Hid (okC cn l k = (Ce.may ⟨r0, f0, g0, b0, w0⟩ && (if w0 = 1 then !bl && decide ((l.getD (k + 1) .z).w = 2) else if w0 = 2 then !bf && decide ((l.getD (k - 1) .z).w = 1) else true))) := Lib.hid (by rw [okC, HGD.out, hbl'.out, hbf'.out])
          obtain ⟨km, hkm⟩ : ∃ km, Ce.may ⟨r0, f0, g0, b0, w0⟩ = km := ⟨_, rfl⟩
          rw [hkm] at hok
          have HKM := Lib.hid hkm
          have HBF := Lib.hid hbf
          have HBL := Lib.hid hbl
          clear hkm hbf hbl
          have HNX : Hid (bl = false → k + 1 < m) := Lib.hid (fun h => by
            have h1 := hbl'.out
            rw [h] at h1
            have h2 := HM.out
            rw [← h2]
            exact not_last (by omega) (by omega) (by simpa using h1))
          have HPV : Hid (bf = false → 1 ≤ k) := Lib.hid (fun h => by
            have h1 := hbf'.out
            rw [h] at h1
            exact not_first (by simpa using h1))
          go_wp2_with fail
          go_at_call 61
          refine (rmaycell_any wr ⟨r0, f0, g0, b0, w0⟩).mono ?_
          rw [HKM.out]
          rintro e w2 ⟨rfl, hc2⟩
          have HW2 : Hid (Chg w1 w2 nob) := Lib.hid (HCH.out.trans hc2 (fun _ _ h => h))
          have v4 := hc2.cell t4 id
          have hbf := HBF.out
          have hbl := HBL.out
          clear hc2 t0 t1 t2 t3 t4
          cases km
          · go_wp2
            go_ret
            exact ⟨by rw [bad.out k hkl (by rw [hok.out]; rfl)]; rfl, HW2.out⟩
          · rcases (show w0 = 1 ∨ w0 = 2 ∨ (w0 ≠ 1 ∧ w0 ≠ 2) by omega) with rfl | rfl | ⟨h5, h6⟩
            · cases bl
              · have hnx := HNX.out rfl
                obtain ⟨c2, hc2⟩ : ∃ c2, l[k + 1]? = some c2 := ⟨l[k + 1]'(by rw [HLM.out]; omega), List.getElem?_eq_getElem (by rw [HLM.out]; omega)⟩
                have hrd := HC.out.kept HW2.out (fun _ _ => id)
                rw [← HLM.out] at hrd
                obtain ⟨g', o', heq, _, _, _, _, s4⟩ := hrd.cell5 hc2
                cases heq
                rw [HLM.out] at *
                have hgd2 : l.getD (k + 1) .z = c2 := by simp [List.getD, hc2]
                rw [hgd2] at hok
                obtain ⟨r2, f2, g2, b2, d2⟩ := c2
                simp only at hok s4
                clear hgd2 hc2 hrd
                by_cases hd : d2 = 2
                · have hgo : Hid (okC cn l k = true) := Lib.hid (by rw [hok.out, hd]; rfl)
                  go_wp2
                  go_roundw
                  case rel => exact ⟨k + 1, by omega, by go_num, Lib.hid (fun j hj => by
                    rcases (show j < k ∨ j = k by omega) with h | rfl
                    · exact HO.out j h
                    · exact hgo.out), HW2⟩
                  case measure => simp [intOf]; omega
                · have hba : Hid (okC cn l k = false) := Lib.hid (by rw [hok.out]; simp [hd])
                  go_wp2
                  go_ret
                  exact ⟨by rw [bad.out k hkl hba.out]; rfl, HW2.out⟩
              · go_wp2
                go_ret
                exact ⟨by rw [bad.out k hkl (by rw [hok.out]; rfl)]; rfl, HW2.out⟩
            · cases bf
              · have hnx := HPV.out rfl
                obtain ⟨c2, hc2⟩ : ∃ c2, l[k - 1]? = some c2 := ⟨l[k - 1]'(by rw [HLM.out]; omega), List.getElem?_eq_getElem (by rw [HLM.out]; omega)⟩
                have hrd := HC.out.kept HW2.out (fun _ _ => id)
                rw [← HLM.out] at hrd
                obtain ⟨g', o', heq, _, _, _, _, s4⟩ := hrd.cell5 hc2
                cases heq
                rw [HLM.out] at *
                have hgd2 : l.getD (k - 1) .z = c2 := by simp [List.getD, hc2]
                rw [hgd2] at hok
                obtain ⟨r2, f2, g2, b2, d2⟩ := c2
                simp only at hok s4
                clear hgd2 hc2 hrd
                by_cases hd : d2 = 1
                · have hgo : Hid (okC cn l k = true) := Lib.hid (by rw [hok.out, hd]; rfl)
                  go_wp2
                  go_roundw
                  case rel => exact ⟨k + 1, by omega, by go_num, Lib.hid (fun j hj => by
                    rcases (show j < k ∨ j = k by omega) with h | rfl
                    · exact HO.out j h
                    · exact hgo.out), HW2⟩
                  case measure => simp [intOf]; omega
                · have hba : Hid (okC cn l k = false) := Lib.hid (by rw [hok.out]; simp [hd])
                  go_wp2
                  go_ret
                  exact ⟨by rw [bad.out k hkl hba.out]; rfl, HW2.out⟩
              · go_wp2
                go_ret
                exact ⟨by rw [bad.out k hkl (by rw [hok.out]; rfl)]; rfl, HW2.out⟩
            · have hgo : Hid (okC cn l k = true) := Lib.hid (by rw [hok.out, if_neg h5, if_neg h6]; rfl)
              have h5' : (w0 == 1) = false := by simpa using h5
              have h6' : (w0 == 2) = false := by simpa using h6
              go_wp2
              go_roundw
              case rel => exact ⟨k + 1, by omega, by go_num, Lib.hid (fun j hj => by
                rcases (show j < k ∨ j = k by omega) with h | rfl
                · exact HO.out j h
                · exact hgo.out), HW2⟩
              case measure => simp [intOf]; omega
        · obtain rfl : k = m := by omega
          go_wp2
          go_ret
          exact ⟨by rw [good.out HO.out]; rfl, HCH.out⟩
    · have hme : mendF rn cn l = false := by
        rw [mendF, hft.out, hmm]; simp; omega
      rw [hme]
      clear hme
      go_enter Tryz.func46, Tryz.ntmps46
      go_wp2_with fail
      go_at_call 68
      refine (rfits_any w rn cn).mono ?_
      rw [hft.out]
      rintro e w1 ⟨rfl, rfl⟩
      have hne : ¬ (l.length : Int) = (m : Int) := by omega
      go_wp2
      go_ret
      exact ⟨rfl, Chg.refl _ _⟩
  · have hft : Hid (fitsF r c = false) := Lib.hid (by simp [fitsF]; omega)
    have hme : mendF r c l = false := by rw [mendF, hft.out]; rfl
    rw [hme]
    clear hme hf
    go_enter Tryz.func46, Tryz.ntmps46
    go_wp2_with fail
    go_at_call 68
    refine (rfits_any w r c).mono ?_
    rw [hft.out]
    rintro e w1 ⟨rfl, rfl⟩
    go_wp2
    go_ret
    exact ⟨rfl, Chg.refl _ _⟩
end Go.Proofs.YtmbdpcamhkdkmaaGreatDoor
