/-
  Chapter 25's examples.
-/
import Derived.Test.YtajcefdbljbmdaaDoorWin
namespace Go.Proofs.YtajcefdbljbmdaaDoor
open Go.RowKit
set_option linter.unusedVariables false
set_option linter.unusedSimpArgs false

set_option maxRecDepth 100000 in
set_option maxHeartbeats 1500000 in
theorem plain_any (w : World) (p : Pk) (vb : Value) (hb : By w vb p.b) : Calls Tryd.prog 30 #[pkV p vb] w fun e w' => e = .returned (pkV p vb) ∧ Chg w w' nob := by
  obtain ⟨ab, cb, rfl, _⟩ := hb.form
  simp only [pkV]
  go_enter Tryd.func30, Tryd.ntmps30
  go_wp2
  go_returns
  exact ⟨rfl, ((Chg.refl w nob).alloc _).alloc _⟩
theorem By.litM (w : World) (L : List Int) (b n : Nat) (fr : Nat × Nat) (hb : b = w.heap.size) (hn : n = L.length) (hL : ∀ x ∈ L, 0 ≤ x ∧ x ≤ 255) : By (w.alloc (.cells (bytesV L).toArray 5 fr)) (.slice (some ⟨b, 0, none⟩) n n) L :=
  ⟨by subst hn; exact Rd.litM w L b _ fr hb rfl, nilOk_some _ _ _, hL⟩
def pk5 : Pk := ⟨1, 0, 7, [5]⟩
theorem pk5_may : pk5.May := by decide
set_option maxRecDepth 100000 in
theorem seal5 : openL [108] (sealL [107] pk5) = (Pk.z, 15) := by decide +kernel
attribute [local go_sem] conv_const
set_option maxRecDepth 100000 in
set_option maxHeartbeats 1500000 in
theorem first25_any (w : World) (ht : Tab w) : Calls Tryd.prog 23 #[] w fun e w' => e = .returned (.bool true) ∧ Chg w w' nob := by
  have HT := Lib.hid ht
  clear ht
  go_enter Tryd.func23, Tryd.ntmps23
  go_wp2_with fail
  go_at_call 28
  obtain ⟨w1, hw1⟩ : ∃ W, w.alloc (.cells #[.int .u8 107] 5 (1, 2)) = W := ⟨_, rfl⟩
  have hk1 : By w1 (.slice (some ⟨w.heap.size, 0, none⟩) 1 1) [107] := by rw [← hw1]; exact By.litM w [107] _ 1 (1, 2) rfl rfl (by decide)
  have hc1 : Chg w w1 nob := by rw [← hw1]; exact (Chg.refl w nob).alloc _
  have hs1 : w1.heap.size = w.heap.size + 1 := by rw [← hw1, size_al]
  rw [hw1, ← hs1]
  obtain ⟨w2, hw2⟩ : ∃ W, w1.alloc (.cells #[.int .u8 5] 5) = W := ⟨_, rfl⟩
  have hb2 : By w2 (.slice (some ⟨w1.heap.size, 0, none⟩) 1 1) pk5.b := by rw [← hw2]; exact By.lit w1 [5] (by decide)
  have hc2 : Chg w1 w2 nob := by rw [← hw2]; exact (Chg.refl w1 nob).alloc _
  rw [hw2]
  have K2 := Lib.hid (hk1.kept hc2)
  have HC2 : Hid (Chg w w2 nob) := Lib.hid (hc1.trans hc2 (fun _ _ h => h))
  obtain ⟨S, hS⟩ : ∃ S, sealL [107] pk5 = S := ⟨_, rfl⟩
  have HO1 : Hid (openL [107] S = (pk5, 0)) := Lib.hid (by rw [← hS]; exact open_seal _ _ pk5_may)
  have HO2 : Hid (openL [108] S = (Pk.z, 15)) := Lib.hid (by rw [← hS]; exact seal5)
  have HSL : Hid (S.length = 27) := Lib.hid (by rw [← hS, sealL_len]; rfl)
  have HSB : Hid (∀ x ∈ S, 0 ≤ x ∧ x ≤ 255) := Lib.hid (by rw [← hS]; exact sealL_byte _ _ (by decide))
  have hse : sealE pk5 = 0 := if_pos pk5_may
  have hsr : sealR [107] pk5 = S := by rw [← hS]; exact if_pos pk5_may
  have hseal := seal_any w2 pk5 [107] _ _ (HT.out.kept HC2.out id) K2.out hb2 ⟨by decide, by decide, by decide⟩ (by decide) (by decide)
  rw [hse, hsr] at hseal
  refine hseal.mono ?_
  clear hseal hse hsr hS hw1 hw2 hk1 hc1 hb2 hc2
  rintro e w3 ⟨v3, rfl, hb3⟩
  have HB3 := Lib.hid (By.ofBx hb3 HSB.out)
  have HC3 : Hid (Chg w w3 nob) := Lib.hid (HC2.out.trans hb3.2.1 (fun _ _ h => h))
  have K3 := Lib.hid (K2.out.kept hb3.2.1)
  obtain ⟨a3, c3, rfl, _⟩ := hb3.1.form
  clear hb3
  go_wp2_with fail
  go_at_call 31
  have hop := open_any w3 [107] S _ _ (HT.out.kept HC3.out id) K3.out HB3.out (by decide) (by rw [HSL.out]; omega)
  rw [HO1.out] at hop
  refine hop.mono ?_
  clear hop
  rintro e w4 ⟨v4, rfl, hb4⟩
  have HB4 : Hid (By w4 v4 [5]) := Lib.hid (By.ofBx hb4 (by decide))
  have HC4 : Hid (Chg w w4 nob) := Lib.hid (HC3.out.trans hb4.2.1 (fun _ _ h => h))
  replace HB3 := Lib.hid (HB3.out.kept hb4.2.1)
  obtain ⟨a4, c4, rfl, _⟩ := hb4.1.form
  clear hb4 K3
  simp only [pkV, pk5]
  go_wp2_with fail
  go_at_call 31
  obtain ⟨w5, hw5⟩ : ∃ W, w4.alloc (.cells #[.int .i64 1, .int .i64 0, .int .u64 7, .slice a4 1 c4] 43) = W := ⟨_, rfl⟩
  have hp5 : Blk w5 w4.heap.size 43 #[.int .i64 1, .int .i64 0, .int .u64 7, .slice a4 1 c4] := by rw [← hw5]; exact Blk.new _ _ _
  have hc5 : Chg w4 w5 nob := by rw [← hw5]; exact (Chg.refl w4 nob).alloc _
  have hs5 : w5.heap.size = w4.heap.size + 1 := by rw [← hw5, size_al]
  rw [hw5, ← hs5]
  obtain ⟨w6, hw6⟩ : ∃ W, w5.alloc (.cells #[.int .u8 108] 5 (1, 2)) = W := ⟨_, rfl⟩
  have hl6 : By w6 (.slice (some ⟨w5.heap.size, 0, none⟩) 1 1) [108] := by rw [← hw6]; exact By.litM w5 [108] _ 1 (1, 2) rfl rfl (by decide)
  have hc6 : Chg w5 w6 nob := by rw [← hw6]; exact (Chg.refl w5 nob).alloc _
  rw [hw6]
  have hc46 : Chg w4 w6 nob := hc5.trans hc6 (fun _ _ h => h)
  have HC6 : Hid (Chg w w6 nob) := Lib.hid (HC4.out.trans hc46 (fun _ _ h => h))
  have HP6 := Lib.hid (hp5.kept hc6 id)
  have hop := open_any w6 [108] S _ _ (HT.out.kept HC6.out id) hl6 (HB3.out.kept hc46) (by decide) (by rw [HSL.out]; omega)
  replace HB4 := Lib.hid (HB4.out.kept hc46)
  rw [HO2.out] at hop
  refine hop.mono ?_
  clear hop hw5 hw6 hp5 hc5 hl6 hc6 hc46
  rintro e w7 ⟨v7, rfl, hb7⟩
  replace HB4 := Lib.hid (HB4.out.kept hb7.2.1)
  have HP7 := Lib.hid (HP6.out.kept hb7.2.1 id)
  have HC7 : Hid (Chg w w7 nob) := Lib.hid (HC6.out.trans hb7.2.1 (fun _ _ h => h))
  obtain ⟨a7, c7, rfl, _⟩ := hb7.1.form
  clear hb7 HB3 HP6
  simp only [pkV, Pk.z]
  go_wp2_with fail
  go_at_call 24
  refine (newwin_any _ 2).mono ?_
  rintro e w8 ⟨g, rfl, hwn, hc8, hg8⟩
  have hca := ((Chg.refl w7 nob).alloc (.cells #[.int .i64 0, .int .i64 0, .int .u64 0, .slice a7 0 c7] 43)).trans hc8 (fun _ _ h => h)
  have HWN := Lib.hid hwn
  have HP8 := Lib.hid (HP7.out.kept hca id)
  have HB8 := Lib.hid (HB4.out.kept hca)
  have HC8 : Hid (Chg w w8 nob) := Lib.hid (HC7.out.trans hca (fun _ _ h => h))
  have HG8 : Hid (w7.heap.size ≤ g) := Lib.hid (by have h1 := size_al w7 (.cells #[.int .i64 0, .int .i64 0, .int .u64 0, .slice a7 0 c7] 43); omega)
  clear hca hwn hc8 hg8 HP7 HB4
  have q2 := HP8.out.cell 2
  have q3 := HP8.out.cell 3
  simp only [List.getElem?_toArray, List.getElem?_cons_zero, List.getElem?_cons_succ] at q2 q3
  have h27 : ((S.length : Int) == 27) = true := by rw [HSL.out]; rfl
  go_wp2_with fail
  go_at_call 18
  refine (bytes_by (HB8.out.alloc _) (By.lit w8 [5] (by decide))).mono ?_
  rw [show decide (([5] : List Int) = [5]) = true from rfl]
  rintro e x ⟨rfl, rfl⟩
  obtain ⟨w9, hw9⟩ : ∃ W, w8.alloc (.cells (bytesV [5]).toArray 5) = W := ⟨_, rfl⟩
  have hc9 : Chg w8 w9 nob := by rw [← hw9]; exact (Chg.refl w8 nob).alloc _
  have HW9 := Lib.hid (HWN.out.kept hc9 id)
  have HC9 : Hid (Chg w w9 nob) := Lib.hid (HC8.out.trans hc9 (fun _ _ h => h))
  rw [hw9]
  clear hc9 hw9 q2 q3 HWN HB8 HP8
  go_wp2_with fail
  go_at_call 26
  refine (wtake_any w9 g 2 3 HW9.out).mono ?_
  rintro e wa ⟨rfl, hwa, hca⟩
  have HWa : Hid (Win wa g 3) := Lib.hid hwa
  have HCa : Hid (Chg w wa nob) := Lib.hid (HC9.out.trans hca (fun i hi h => by have h1 := HC7.out.size; have h2 := HG8.out; omega))
  clear hwa hca
  rw [show takeE 2 3 = 0 from rfl]
  go_wp2_with fail
  go_at_call 26
  refine (wtake_any wa g 3 3 HWa.out).mono ?_
  rintro e wb ⟨rfl, hwb, hcb⟩
  have HCb : Hid (Chg w wb nob) := Lib.hid (HCa.out.trans hcb (fun i hi h => by have h1 := HC7.out.size; have h2 := HG8.out; omega))
  clear hwb hcb
  rw [show takeE 3 3 = 14 from rfl]
  go_wp2
  go_ret
  exact ⟨rfl, HCb.out⟩
end Go.Proofs.YtajcefdbljbmdaaDoor
