
/-
  Chapter 27's examples.
-/
import Derived.Test.YtcgdmidjejmjhaaDoorPeer4
namespace Go.Proofs.YtcgdmidjejmjhaaDoor
open Go.RowKit
set_option linter.unusedVariables false
set_option linter.unusedSimpArgs false

attribute [local go_sem] conv_const
def pk9 : Pk := ⟨1, 0, 1, [9]⟩
theorem pk9_may : pk9.May := by decide
set_option maxRecDepth 100000 in
set_option maxHeartbeats 1500000 in
theorem first27_any (w : World) (ht : Tab w) : Calls Tryd.prog 4 #[] w fun e w' => e = .returned (.bool true) ∧ Chg w w' nob := by
  have HT := Lib.hid ht
  clear ht
  go_enter Tryd.func4, Tryd.ntmps4
  go_wp2_with fail
  go_at_call 6
  obtain ⟨w1, hw1⟩ : ∃ W, World.alloc w (.cells #[.int .u8 107] 5 (1, 2)) = W := ⟨_, rfl⟩
  have hkw1 : By w1 (.slice (some ⟨w.heap.size, 0, none⟩) 1 1) [107] := by rw [← hw1]; exact By.litM w [107] _ 1 (1, 2) rfl rfl (by decide)
  have hcw1 : Chg w w1 nob := by rw [← hw1]; exact (Chg.refl w nob).alloc _
  rw [hw1]
  clear hw1
  refine (pnew_ok w1 [107] _ 1 0 0 hkw1 (by decide) ⟨.inl rfl, by decide, by decide, by decide⟩).mono ?_
  rintro e w2 ⟨ga, gwa, ua, rfl, hpa, hca, hga, hgwa, hua⟩
  have HA := Lib.hid hpa
  have HC : Hid (Chg w w2 nob) := Lib.hid (hcw1.trans hca (fun _ _ h => h))
  have HGA : Hid (w.heap.size ≤ ga ∧ w.heap.size ≤ gwa ∧ ga < w2.heap.size ∧ gwa < w2.heap.size) := Lib.hid ⟨Nat.le_trans hcw1.size hga, Nat.le_trans hcw1.size hgwa, hpa.blk.lt, hpa.win.lt⟩
  clear hpa hca hga hgwa hua hkw1 hcw1
  go_wp2_with fail
  go_at_call 6
  obtain ⟨w3, hw3⟩ : ∃ W, World.alloc w2 (.cells #[.int .u8 107] 5 (1, 2)) = W := ⟨_, rfl⟩
  have hkw3 : By w3 (.slice (some ⟨w2.heap.size, 0, none⟩) 1 1) [107] := by rw [← hw3]; exact By.litM w2 [107] _ 1 (1, 2) rfl rfl (by decide)
  have hcw3 : Chg w2 w3 nob := by rw [← hw3]; exact (Chg.refl w2 nob).alloc _
  rw [hw3]
  clear hw3
  refine (pnew_ok w3 [107] _ 2 0 0 hkw3 (by decide) ⟨.inr rfl, by decide, by decide, by decide⟩).mono ?_
  rintro e w4 ⟨gb, gwb, ub, rfl, hpb, hcb, hgb, hgwb, hub⟩
  have HB := Lib.hid hpb
  have hck : Chg w2 w4 nob := hcw3.trans hcb (fun _ _ h => h)
  have HNE : Hid (ga ≠ gb ∧ gwa ≠ gwb) := Lib.hid (by have h1 := HGA.out; have h2 := hcw3.size; constructor <;> omega)
  have HGB : Hid (w.heap.size ≤ gb ∧ w.heap.size ≤ gwb) := Lib.hid (by have h1 := HC.out.size; have h2 := hcw3.size; constructor <;> omega)
  replace HC : Hid (Chg w w4 nob) := Lib.hid (HC.out.trans hck (fun _ _ h => h))
  replace HA := Lib.hid (HA.out.kept hck)
  clear hpb hcb hgb hgwb hub hkw3 hcw3 hck
  go_wp2_with fail
  go_at_call 13
  refine (paddr_any w4 ga gwa ua _ HA.out).mono ?_
  rintro e x ⟨rfl, rfl⟩
  go_wp2_with fail
  go_at_call 8
  obtain ⟨w5, hw5⟩ : ∃ W, w4.alloc (.cells #[.int .u8 9] 5) = W := ⟨_, rfl⟩
  have hb5 : By w5 (.slice (some ⟨w4.heap.size, 0, none⟩) 1 1) [9] := by rw [← hw5]; exact By.lit w4 [9] (by decide)
  have hck : Chg w4 w5 nob := by rw [← hw5]; exact (Chg.refl w4 nob).alloc _
  rw [hw5]
  replace HC : Hid (Chg w w5 nob) := Lib.hid (HC.out.trans hck (fun _ _ h => h))
  replace HA := Lib.hid (HA.out.kept hck)
  replace HB := Lib.hid (HB.out.kept hck)
  clear hck hw5
  have hsd := psend_any w5 ga gwa ua _ ⟨[107], 1, 0, 0, 0, -1⟩ [9] (HT.out.kept HC.out id) HA.out ⟨by decide, .inl rfl, by decide, by decide⟩ hb5
  obtain ⟨S, hS⟩ : ∃ S, sealL [107] pk9 = S := ⟨_, rfl⟩
  rw [show sendE ⟨[107], 1, 0, 0, 0, -1⟩ [9] = 0 from rfl, show sendL ⟨[107], 1, 0, 0, 0, -1⟩ [9] = S from hS, show sendS ⟨[107], 1, 0, 0, 0, -1⟩ [9] = ⟨[107], 1, 0, 1, 0, -1⟩ from rfl] at hsd
  have HSB : Hid (∀ x ∈ S, 0 ≤ x ∧ x ≤ 255) := Lib.hid (by rw [← hS]; exact sealL_byte _ _ (by decide))
  have hsl : S.length = 27 := by rw [← hS, sealL_len]; rfl
  have HT1 : Hid (takeX ⟨[107], 2, 0, 0, 0, -1⟩ 4 S = (⟨[107], 2, 0, 0, 1, 4⟩, [9], 0)) := Lib.hid (by rw [← hS]; exact take_seal ⟨[107], 2, 0, 0, 0, -1⟩ 4 pk9 pk9_may)
  have HT2 : Hid (takeX ⟨[107], 2, 0, 0, 1, 4⟩ 5 S = (⟨[107], 2, 0, 0, 1, 4⟩, [], 14)) := Lib.hid (by rw [← hS]; exact take_seal ⟨[107], 2, 0, 0, 1, 4⟩ 5 pk9 pk9_may)
  have HSL := Lib.hid hsl
  clear hS hsl hb5
  refine hsd.mono ?_
  clear hsd
  rintro e w6 ⟨x, rfl, hfx, hpa, hck⟩
  have hck2 : Chg w5 w6 (two ga gwa) := hck.one
  replace HB := Lib.hid (HA.out.other HB.out hck2 HNE.out.1 HNE.out.2)
  replace HA := Lib.hid hpa
  replace HC : Hid (Chg w w6 nob) := Lib.hid (HC.out.news hck2 HGA.out.1 HGA.out.2.1)
  have HX := Lib.hid hfx.1
  obtain ⟨ax, cx, rfl, _⟩ := hfx.1.form
  clear hfx hpa hck hck2
  go_wp2_with fail
  go_at_call 10
  have htk := ptake_any w6 gb gwb ub _ ⟨[107], 2, 0, 0, 0, -1⟩ 4 S (HT.out.kept HC.out id) HB.out ⟨by decide, .inr rfl, by decide, by decide⟩ ⟨HX.out.rd, HX.out.nilOk, HSB.out⟩ (by rw [HSL.out]; omega)
  rw [HT1.out] at htk
  refine htk.mono ?_
  clear htk
  rintro e w7 ⟨y, rfl, hfy, hpb, hck⟩
  replace HX := Lib.hid (HB.out.own HX.out hck)
  replace HA := Lib.hid (HB.out.other HA.out hck (Ne.symm HNE.out.1) (Ne.symm HNE.out.2))
  replace HB := Lib.hid hpb
  replace HC : Hid (Chg w w7 nob) := Lib.hid (HC.out.news hck HGB.out.1 HGB.out.2)
  have HY := Lib.hid hfy.1
  obtain ⟨ay, cy, rfl, _⟩ := hfy.1.form
  clear hfy hpb hck
  go_wp2_with fail
  go_at_call 10
  have htk := ptake_any w7 gb gwb ub _ ⟨[107], 2, 0, 0, 1, 4⟩ 5 S (HT.out.kept HC.out id) HB.out ⟨by decide, .inr rfl, by decide, by decide⟩ ⟨HX.out.rd, HX.out.nilOk, HSB.out⟩ (by rw [HSL.out]; omega)
  rw [HT2.out] at htk
  refine htk.mono ?_
  clear htk
  rintro e w8 ⟨z, rfl, hfz, hpb, hck⟩
  replace HY := Lib.hid (HB.out.own HY.out hck)
  replace HA := Lib.hid (HB.out.other HA.out hck (Ne.symm HNE.out.1) (Ne.symm HNE.out.2))
  replace HB := Lib.hid hpb
  replace HC : Hid (Chg w w8 nob) := Lib.hid (HC.out.news hck HGB.out.1 HGB.out.2)
  obtain ⟨az, cz, rfl, _⟩ := hfz.1.form
  clear hfz hpb hck HX
  go_wp2_with fail
  go_at_call 14
  refine (pout_any w8 ga gwa ua _ HA.out).mono ?_
  rintro e x ⟨rfl, rfl⟩
  go_wp2_with fail
  go_at_call 12
  obtain ⟨w9, hw9⟩ : ∃ W, w8.alloc (.cells #[.int .u8 9] 5) = W := ⟨_, rfl⟩
  have hb9 : By w9 (.slice (some ⟨w8.heap.size, 0, none⟩) 1 1) [9] := by rw [← hw9]; exact By.lit w8 [9] (by decide)
  have hck : Chg w8 w9 nob := by rw [← hw9]; exact (Chg.refl w8 nob).alloc _
  rw [hw9]
  replace HC : Hid (Chg w w9 nob) := Lib.hid (HC.out.trans hck (fun _ _ h => h))
  replace HB := Lib.hid (HB.out.kept hck)
  have hy9 : By w9 (.slice ay [(9 : Int)].length cy) [9] := (⟨HY.out.rd, HY.out.nilOk, by decide⟩ : By w8 _ [9]).kept hck
  clear hck hw9 HY
  refine (bytes_by hy9 hb9).mono ?_
  rw [show decide (([9] : List Int) = [9]) = true from rfl]
  rintro e x ⟨rfl, rfl⟩
  clear hy9 hb9
  go_wp2_with fail
  go_at_call 13
  refine (paddr_any w9 gb gwb ub _ HB.out).mono ?_
  rintro e x ⟨rfl, rfl⟩
  go_wp2_with fail
  go_at_call 15
  refine (pin_any w9 gb gwb ub _ HB.out).mono ?_
  rintro e x ⟨rfl, rfl⟩
  go_wp2
  go_ret
  exact ⟨rfl, HC.out⟩
end Go.Proofs.YtcgdmidjejmjhaaDoor
