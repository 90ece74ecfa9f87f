
/-
  The document's cells and screens: widths, what may be; its title.
-/
import Derived.Test.YtioabdoghophlaaDoorRU
import Derived.Test.YtioabdoghophlaaDoorScr2
namespace Go.Proofs.YtioabdoghophlaaDoor
open Go.RowKit
set_option linter.unusedVariables false
set_option linter.unusedSimpArgs false

set_option maxRecDepth 100000 in
theorem rin_any (w : World) (r lo hi : Int) : Calls Tryd.prog 80 #[.int .i32 r, .int .i32 lo, .int .i32 hi] w fun e w' => e = .returned (.bool (decide (lo ≤ r ∧ r ≤ hi))) ∧ w' = w := by
  rcases (show r < lo ∨ (lo ≤ r ∧ hi < r) ∨ (lo ≤ r ∧ r ≤ hi) by omega) with h | ⟨h, h'⟩ | ⟨h, h'⟩
  all_goals
    go_enter Tryd.func80, Tryd.ntmps80
    go_wp2
    go_ret
    refine ⟨?_, rfl⟩
    show Ending.returned (Value.bool _) = _
    congr 2; rw [Bool.eq_iff_iff]; simp; omega
set_option maxRecDepth 100000 in
set_option maxHeartbeats 8000000 in
theorem rwidth_any (w : World) (r : Int) : Calls Tryd.prog 47 #[.int .i32 r] w fun e w' => e = .returned (.int .i64 (widthF r)) ∧ w' = w := by
  go_enter Tryd.func47, Tryd.ntmps47
  go_wp2_with (first
    | (go_at_call 79; refine (refSign_any _ r).mono ?_; rintro e w' ⟨rfl, rfl⟩)
    | (go_at_call 80; refine (rin_any _ r _ _).mono ?_; rintro e w' ⟨rfl, rfl⟩))
  all_goals go_ret
  all_goals
    refine ⟨?_, rfl⟩
    show Ending.returned (Value.int .i64 _) = _
    congr 2
    simp only [isSign, decide_eq_true_eq, decide_eq_false_iff_not, Bool.and_eq_true, Bool.not_eq_true', Bool.and_eq_false_iff, Bool.not_eq_false', widthF, amongF, noneL, wideL, List.any_cons, List.any_nil, Bool.or_eq_true, Bool.false_eq_true, or_false] at *
    (repeat' split) <;> omega
set_option maxRecDepth 100000 in
set_option maxHeartbeats 4000000 in
theorem rmayc_any (w : World) (n : Int) : Calls Tryd.prog 81 #[.int .i64 n] w fun e w' => e = .returned (.bool (mayC n)) ∧ w' = w := by
  rcases (show n < 0 ∨ (0 ≤ n ∧ n ≤ 256) ∨ (256 < n ∧ n < 16777216) ∨ (16777216 ≤ n ∧ n < 33554432) ∨ 33554432 ≤ n by omega) with h | ⟨h, h'⟩ | ⟨h, h'⟩ | ⟨h, h'⟩ | h
  all_goals
    go_enter Tryd.func81, Tryd.ntmps81
    go_wp2
  all_goals go_ret
  all_goals (refine ⟨?_, rfl⟩; show Ending.returned (Value.bool _) = _; congr 2; rw [Bool.eq_iff_iff]; simp [mayC]; try omega)
set_option maxRecDepth 100000 in
set_option maxHeartbeats 4000000 in
theorem rmay_any (w : World) (f g b : Int) : Calls Tryd.prog 48 #[lookV f g b] w fun e w' => e = .returned (.bool (mayF f g b)) ∧ Chg w w' nob := by
  obtain ⟨k1, e1⟩ : ∃ k, mayC g = k := ⟨_, rfl⟩
  obtain ⟨k2, e2⟩ : ∃ k, mayC b = k := ⟨_, rfl⟩
  have hm : mayF f g b = (decide (0 ≤ f ∧ f ≤ 255) && k1 && k2) := by unfold mayF; rw [e1, e2]
  rw [hm]
  clear hm
  have E1 := Lib.hid e1
  have E2 := Lib.hid e2
  clear e1 e2
  rcases (show f < 0 ∨ 255 < f ∨ (0 ≤ f ∧ f ≤ 255) by omega) with h | h | ⟨h, h'⟩
  · have hd : Hid (decide (0 ≤ f ∧ f ≤ 255) = false) := Lib.hid (by simp; omega)
    rw [hd.out]
    go_enter Tryd.func48, Tryd.ntmps48
    go_wp2
    go_ret
    exact ⟨rfl, (Chg.refl w nob).alloc _⟩
  · have hd : Hid (decide (0 ≤ f ∧ f ≤ 255) = false) := Lib.hid (by simp; omega)
    have h2 : 0 ≤ f := by omega
    rw [hd.out]
    go_enter Tryd.func48, Tryd.ntmps48
    go_wp2
    go_ret
    exact ⟨rfl, (Chg.refl w nob).alloc _⟩
  · have hd : Hid (decide (0 ≤ f ∧ f ≤ 255) = true) := Lib.hid (by simp; omega)
    rw [hd.out]
    go_enter Tryd.func48, Tryd.ntmps48
    go_wp2_with fail
    go_at_call 81
    refine (rmayc_any _ g).mono ?_
    rw [E1.out]
    rintro e w' ⟨rfl, rfl⟩
    cases k1
    · go_wp2
      go_ret
      exact ⟨rfl, (Chg.refl w nob).alloc _⟩
    · go_wp2_with fail
      go_at_call 81
      refine (rmayc_any _ b).mono ?_
      rw [E2.out]
      rintro e w' ⟨rfl, rfl⟩
      cases k2
      all_goals
        go_wp2
        go_ret
        exact ⟨rfl, (Chg.refl w nob).alloc _⟩
set_option maxRecDepth 100000 in
theorem widthF_vals (r : Int) : widthF r = 0 ∨ widthF r = 1 ∨ widthF r = 2 := by unfold widthF; (repeat' split) <;> simp
set_option maxRecDepth 100000 in
set_option maxHeartbeats 8000000 in
theorem rmaycell_any (w : World) (c : Ce) : Calls Tryd.prog 12 #[c.val] w fun e w' => e = .returned (.bool c.may) ∧ Chg w w' nob := by
  obtain ⟨r, f, g, b, d⟩ := c
  simp only [Ce.val, Ce.may]
  obtain ⟨k2, e2⟩ : ∃ k, mayF f g b = k := ⟨_, rfl⟩
  rw [e2]
  have E2 := Lib.hid e2
  obtain ⟨k1, e1⟩ : ∃ k, mayF2 r d = k := ⟨_, rfl⟩
  rw [e1]
  obtain ⟨x, ex⟩ : ∃ x, widthF r = x := ⟨_, rfl⟩
  have hx : x = 0 ∨ x = 1 ∨ x = 2 := by rw [← ex]; exact widthF_vals r
  have EX := Lib.hid ex
  have hk : k1 = if d = 0 then decide (x = 1) else if d = 1 then decide (x = 2) else if d = 2 then decide (r = 0) else false := by
    rw [← e1, mayF2, ex]
    by_cases h0 : d = 0
    · subst h0; simp
    · by_cases h1 : d = 1
      · subst h1; simp
      · rw [if_neg (by omega), if_neg h0, if_neg h1]
  clear e1 e2 ex
  have HK := Lib.hid hk
  clear hk
  go_enter Tryd.func12, Tryd.ntmps12
  go_wp2_with fail
  go_at_call 47
  refine (rwidth_any _ r).mono ?_
  rw [EX.out]
  rintro e w1 ⟨rfl, rfl⟩
  go_wp2_with fail
  go_at_call 48
  refine (rmay_any _ f g b).mono ?_
  rw [E2.out]
  rintro e w2 ⟨rfl, hc2⟩
  have hb := (Blk.new w 29 _).kept hc2 id
  have H2 : Hid (Chg w w2 nob) := Lib.hid (((Chg.refl w nob).alloc _).trans hc2 (fun _ _ h => h))
  have u0 := hb.cell 0
  have u1 := hb.cell 1
  have u2 := hb.cell 2
  have u3 := hb.cell 3
  have u4 := hb.cell 4
  simp only [List.getElem?_toArray, List.getElem?_cons_zero, List.getElem?_cons_succ] at u0 u1 u2 u3 u4
  clear hc2 hb
  cases k2
  · go_wp2
    all_goals
      go_ret
      refine ⟨?_, H2.out⟩
      show Ending.returned (Value.bool _) = _
      rw [Bool.and_false]
  · rcases (show d = 0 ∨ d = 1 ∨ d = 2 ∨ (d ≠ 0 ∧ d ≠ 1 ∧ d ≠ 2) by omega) with rfl | rfl | rfl | ⟨h0, h1, h2⟩
    · rcases hx with rfl | rfl | rfl
      all_goals
        go_wp2
        go_ret
        exact ⟨by (show Ending.returned (Value.bool _) = _); rw [HK.out]; rfl, H2.out⟩
    · rcases hx with rfl | rfl | rfl
      all_goals
        go_wp2
        go_ret
        exact ⟨by (show Ending.returned (Value.bool _) = _); rw [HK.out]; rfl, H2.out⟩
    · by_cases hr : r = 0
      · subst hr
        go_wp2
        go_ret
        exact ⟨by (show Ending.returned (Value.bool _) = _); rw [HK.out]; rfl, H2.out⟩
      · have hr' : (r == 0) = false := by simpa using hr
        have hr2 : Hid (decide (r = 0) = false) := Lib.hid (by simp [hr])
        go_wp2
        go_ret
        exact ⟨by (show Ending.returned (Value.bool _) = _); rw [HK.out, hr2.out]; rfl, H2.out⟩
    · go_wp2
      go_ret
      exact ⟨by (show Ending.returned (Value.bool _) = _); rw [HK.out, if_neg h0, if_neg h1, if_neg h2]; rfl, H2.out⟩
set_option maxRecDepth 100000 in
set_option maxHeartbeats 4000000 in
theorem rfits_any (w : World) (r c : Int) : Calls Tryd.prog 115 #[.int .i64 r, .int .i64 c] w fun e w' => e = .returned (.bool (fitsF r c)) ∧ w' = w := by
  rcases (show r < 1 ∨ (1 ≤ r ∧ 60 < r) ∨ (1 ≤ r ∧ r ≤ 60 ∧ c < 1) ∨ (1 ≤ r ∧ r ≤ 60 ∧ 1 ≤ c ∧ 200 < c) ∨ (1 ≤ r ∧ r ≤ 60 ∧ 1 ≤ c ∧ c ≤ 200) by omega) with h | ⟨h1, h2⟩ | ⟨h1, h2, h3⟩ | ⟨h1, h2, h3, h4⟩ | ⟨h1, h2, h3, h4⟩
  all_goals
    first | rw [show fitsF r c = false by simp [fitsF]; omega] | rw [show fitsF r c = true by simp [fitsF]; omega]
    go_enter Tryd.func115, Tryd.ntmps115
    go_wp2
    go_ret
    exact ⟨by first | rfl | (show Ending.returned (Value.bool _) = _; congr 2; simp; omega), rfl⟩
set_option maxRecDepth 100000 in
theorem rtsign_any (w : World) (r : Int) : Calls Tryd.prog 94 #[.int .i32 r] w fun e w' => e = .returned (.bool (okSign r)) ∧ w' = w := by
  obtain ⟨b, hb⟩ : ∃ b, isSign r = b := ⟨_, rfl⟩
  have HB := Lib.hid hb
  rcases (show r < 32 ∨ (32 ≤ r ∧ r < 127) ∨ (32 ≤ r ∧ 127 ≤ r ∧ r ≤ 159) ∨ (32 ≤ r ∧ 127 ≤ r ∧ 159 < r) by omega) with h | ⟨h, h1⟩ | ⟨h, h1, h2⟩ | ⟨h, h1, h2⟩
  all_goals
    have hk : okSign r = (b && decide (32 ≤ r) && !decide (127 ≤ r ∧ r ≤ 159)) := by rw [okSign, hb]
    have HK := Lib.hid hk
    clear hk hb
    go_enter Tryd.func94, Tryd.ntmps94
    go_wp2_with fail
    go_at_call 79
    refine (refSign_any _ r).mono ?_
    rw [HB.out]
    rintro e w' ⟨rfl, rfl⟩
    cases b
    all_goals
      go_wp2
      go_ret
      refine ⟨?_, rfl⟩
      show Ending.returned (Value.bool _) = _
      congr 2
      rw [HK.out, Bool.eq_iff_iff]
      simp
      try omega
end Go.Proofs.YtioabdoghophlaaDoor
