/-
  Chapter 3: the walk of UtfSigns.
-/
import Derived.Test.YtfcgjnmbbgioiaaUtf10
import Derived.Deep.DeepCutAuto
import Derived.Deep.CutBlock
import Derived.Deep.RegionWith
namespace Go.Proofs.Ytfcgjnmbbgioiaa
open Go.RowKit
set_option linter.unusedVariables false
set_option linter.unusedSimpArgs false


theorem cnt_le {a : Int} {k : Nat} : cntN a k ≤ 4 := by unfold cntN; (repeat' split) <;> omega
theorem cnt_up0 {a : Int} (g : 128 ≤ a) : cntN a 1 = cntN a 0 + 1 := by unfold cntN; (repeat' split) <;> omega
theorem cnt_no0 {a : Int} (g : ¬ 128 ≤ a) : cntN a 1 = cntN a 0 := by unfold cntN; (repeat' split) <;> omega
theorem cnt_up1 {a : Int} (g : 2048 ≤ a) : cntN a 2 = cntN a 1 + 1 := by unfold cntN; (repeat' split) <;> omega
theorem cnt_no1 {a : Int} (g : ¬ 2048 ≤ a) : cntN a 2 = cntN a 1 := by unfold cntN; (repeat' split) <;> omega
theorem cnt_up2 {a : Int} (g : 65536 ≤ a) : cntN a 3 = cntN a 2 + 1 := by unfold cntN; (repeat' split) <;> omega
theorem cnt_no2 {a : Int} (g : ¬ 65536 ≤ a) : cntN a 3 = cntN a 2 := by unfold cntN; (repeat' split) <;> omega
/-- Encode of one number that lies in a row. -/
theorem enc_one {w : World} {n : Nat} {r : Int} (hc : w.cell? ⟨n, 0, none⟩ = some (.int .i32 r)) (hr : -2147483648 ≤ r ∧ r ≤ 2147483647) :
    Calls Try.prog 20 #[.slice (some ⟨n, 0, none⟩) 1 1] w fun e w' => ∃ v, e = .returned v ∧ Own w' 5 1 v (encR r).length (bytesV (encR r)) ∧ Chg w w' nob := by
  have he : encL [r] = encR r := by simp [encL]
  have hx : Rd w 1 (.slice (some ⟨n, 0, none⟩) 1 1) ([r] : List Int).length (runesV [r]) := ⟨_, 1, rfl, Nat.le_refl _, rfl, fun j u hu => by
    match j, hu with
    | 0, hu => cases hu; exact ⟨n, 0, rfl, hc⟩
    | j + 1, hu => simp [runesV] at hu⟩
  refine (encode_any w _ [r] hx (by simpa using hr) (by simp)).mono ?_
  rw [he]
  rintro e w' ⟨v, h1, h2, h3, _⟩
  exact ⟨v, h1, h2, h3⟩

theorem cell_at (w : World) (t : TypeId) (cs : Array Value) {n j : Nat} {u : Value} (hn : n = w.heap.size) (hu : cs[j]? = some u) : (w.alloc (.cells cs t)).cell? ⟨n, j, none⟩ = some u := by
  subst hn; rw [(Blk.new w t cs).cell]; exact hu
theorem size_al (w : World) (o : Obj) : (w.alloc o).heap.size = w.heap.size + 1 := Array.size_push _

set_option maxRecDepth 100000 in
set_option maxHeartbeats 8000000 in
theorem UtfSigns_walk (a0 a1 : Int) (w : World) (w0 : -2147483648 ≤ a0 ∧ a0 ≤ 2147483647) (w1 : -2147483648 ≤ a1 ∧ a1 ≤ 2147483647) :
    Calls Try.prog 7 #[.int .i32 a0, .int .i32 a1] w fun e w' => e = .returned (.bool true) ∧ Chg w w' nob := by
  by_cases h : isSign a0 = true ∧ isSign a1 = true
  · obtain ⟨h0, h1⟩ := h
    obtain ⟨b1, b2, b3⟩ := isSign_b h0
    obtain ⟨c1, c2, c3⟩ := isSign_b h1
    have n1 : decide (a0 < 0) = false := by simp; omega
    have n2 : decide (1114111 < a0) = false := by simp; omega
    have n4 : decide (a1 < 0) = false := by simp; omega
    have n5 : decide (1114111 < a1) = false := by simp; omega
    have H0 := Lib.hid h0
    have H1 := Lib.hid h1
    clear h0 h1
    go_enter Try.func7, Try.ntmps7
    go_wp2_with fail
    go_at_call 9
    refine (ufirst_any w).mono ?_
    rintro e wA ⟨rfl, hwA⟩
    have HA := Lib.hid hwA
    clear hwA
    go_upto_region 3 with (fail)
    go_cut [40] (fun v wx => v = .bool false ∧ wx = wA)
    case first =>
      rcases (show a0 < 55296 ∨ (55296 ≤ a0 ∧ ¬ a0 ≤ 57343) by omega) with g | ⟨g, g'⟩
      all_goals rcases (show a1 < 55296 ∨ (55296 ≤ a1 ∧ ¬ a1 ≤ 57343) by omega) with k | ⟨k, k'⟩
      all_goals go_wp2
      all_goals go_meet
      all_goals exact ⟨by first | rfl | (congr 1; simp; omega), rfl⟩
    case rest =>
    obtain ⟨rfl, rfl⟩ := hcut
    go_upto_region 5 with (fail)
    go_cut [5, 6] (fun p q wx => p = .string (strOfNums (encR a0)) ∧ q = .string (strOfNums (encR a1)) ∧ Chg wc wx nob)
    case first =>
      generalize wc = wd at *
      have hz : ∀ o, (wd.alloc o).heap.size = wd.heap.size + 1 := fun o => size_al wd o
      go_region_with (first
        | (go_at_call 20
           refine (enc_one (r := a0) (by first | exact cell_at wd _ _ rfl rfl | exact ((Chg.refl _ nob).alloc _).cell (cell_at wd _ _ rfl rfl) id | exact cell_at (wd.alloc _) _ _ (size_al wd _).symm rfl) w0).mono ?_
           rintro e W1 ⟨v1, rfl, ho1, hc1⟩
           have hd1 : Chg wd W1 nob := by
             first
               | exact (((Chg.refl wd nob).alloc _).drew).trans hc1 (fun _ _ h => h)
               | exact ((((Chg.refl wd nob).alloc _).alloc _).drew).trans hc1 (fun _ _ h => h)
           have ra1 := rd_string W1 v1 _ ho1.rd
           have rb1 : ∀ t cs, (convert 22 9 v1).run Try.prog (W1.alloc (.cells cs t)) = .ok (.string (strOfNums (encR a0))) (W1.alloc (.cells cs t)) := fun t cs => rd_string _ v1 _ (ho1.rd.alloc _))
        | (go_at_call 20
           refine (enc_one (r := a1) (by first | exact cell_at W1 _ _ rfl rfl | exact hc1.cell (cell_at wd _ _ rfl rfl) id | exact hc1.cell (((Chg.refl _ nob).alloc _).cell (cell_at wd _ _ rfl rfl) id) id | exact hc1.cell (cell_at (wd.alloc _) _ _ (size_al wd _).symm rfl) id) w1).mono ?_
           rintro e W2 ⟨v2, rfl, ho2, hc2⟩
           have hd2 : Chg wd W2 nob := by
             first
               | exact hd1.trans hc2 (fun _ _ h => h)
               | exact (hd1.alloc _).trans hc2 (fun _ _ h => h)
           have ra2 := rd_string W2 v2 _ ho2.rd
           have rc2 : (convert 22 9 v1).run Try.prog W2 = .ok (.string (strOfNums (encR a0))) W2 := by
             first
               | exact rd_string W2 v1 _ (ho1.rd.kept hc2 (fun _ _ => id))
               | exact rd_string W2 v1 _ ((ho1.rd.alloc _).kept hc2 (fun _ _ => id))))
      all_goals go_wp2
      all_goals go_meet
      all_goals exact ⟨rfl, rfl, hd2⟩
    case rest =>
      obtain ⟨rfl, rfl, hW⟩ := hcut
      have HW := Lib.hid (HA.out.trans hW fun _ _ h => h)
      clear hW HA
      have HP : Hid (Pair a0 a1 (strOfNums (encR a0)) (strOfNums (encR a1))) := Lib.hid (by
        have e0 : encR a0 = encS a0 := by unfold encR fixR; rw [if_pos H0.out]
        have e1 : encR a1 = encS a1 := by unfold encR fixR; rw [if_pos H1.out]
        rw [e0, e1]; exact pair_of H0.out H1.out)
      generalize strOfNums (encR a0) = X at *
      generalize strOfNums (encR a1) = Y at *
      go_wp2_with fail
      go_loopw [7, 8] (fun n i wr => ∃ k : Nat, k ≤ 3 ∧ i = .int .i64 k ∧ n = .int .i64 (cntN a0 k) ∧ Hid (Chg w wr nob)) (fun _ i _ => 3 - (intOf i).toNat)
      case atStart => exact ⟨0, by omega, rfl, by simp [cntN], HW.out⟩
      case round =>
        obtain ⟨k, hk, rfl, rfl, HI⟩ := hrel
        clear HW
        by_cases hkl : k < 3
        · rcases (show k = 0 ∨ k = 1 ∨ k = 2 by omega) with rfl | rfl | rfl
          · have hM := cnt_le (a := a0) (k := 0)
            by_cases g : 128 ≤ a0
            · have HS := Lib.hid (cnt_up0 g)
              generalize cntN a0 0 = M at *
              go_wp2
              go_roundw
              case rel => exact ⟨1, by omega, rfl, by rw [HS.out]; go_num, HI.out.alloc _⟩
              case measure => simp [intOf]
            · have HS := Lib.hid (cnt_no0 g)
              generalize cntN a0 0 = M at *
              go_wp2
              go_roundw
              case rel => exact ⟨1, by omega, rfl, by rw [HS.out], HI.out.alloc _⟩
              case measure => simp [intOf]
          · have hM := cnt_le (a := a0) (k := 1)
            by_cases g : 2048 ≤ a0
            · have HS := Lib.hid (cnt_up1 g)
              generalize cntN a0 1 = M at *
              go_wp2
              go_roundw
              case rel => exact ⟨2, by omega, rfl, by rw [HS.out]; go_num, HI.out.alloc _⟩
              case measure => simp [intOf]
            · have HS := Lib.hid (cnt_no1 g)
              generalize cntN a0 1 = M at *
              go_wp2
              go_roundw
              case rel => exact ⟨2, by omega, rfl, by rw [HS.out], HI.out.alloc _⟩
              case measure => simp [intOf]
          · have hM := cnt_le (a := a0) (k := 2)
            by_cases g : 65536 ≤ a0
            · have HS := Lib.hid (cnt_up2 g)
              generalize cntN a0 2 = M at *
              go_wp2
              go_roundw
              case rel => exact ⟨3, by omega, rfl, by rw [HS.out]; go_num, HI.out.alloc _⟩
              case measure => simp [intOf]
            · have HS := Lib.hid (cnt_no2 g)
              generalize cntN a0 2 = M at *
              go_wp2
              go_roundw
              case rel => exact ⟨3, by omega, rfl, by rw [HS.out], HI.out.alloc _⟩
              case measure => simp [intOf]
        · obtain rfl : k = 3 := by omega
          generalize hN : cntN a0 3 = N at *
          have hXs : (X.size : Int) = N := by rw [HP.out.size, hN]
          have hZ : sizeR a0 = N := by rw [cnt_size H0.out, hN]
          have HZ := Lib.hid hZ
          clear hZ hN
          have hxn : ((X.size : Int) == (N : Int)) = true := by simp [hXs]
          have hnn : ((N : Int) == (N : Int)) = true := by simp
          clear hXs
          go_wp2_with fail
          go_at_call 9
          refine (ufirst_any _).mono ?_
          rintro e wF ⟨rfl, hwF⟩
          have HF := Lib.hid (HI.out.trans hwF fun _ _ h => h)
          clear hwF
          go_wp2_with fail
          go_at_call 17
          refine (size_any _ a0).mono ?_
          rw [HZ.out]
          rintro e w' ⟨rfl, rfl⟩
          rcases Int.lt_trichotomy a0 a1 with g | g | g
          · have q1 : Op.bytesLess X.toList Y.toList = true := by rw [HP.out.less]; simp [g]
            have q2 : (X.toList == Y.toList) = false := by rw [HP.out.same]; simp; omega
            have q3 : (a0 == a1) = false := by simp; omega
            by_cases g2 : (Y.size : Int) ≤ (X.size : Int)
            · go_wp2
              all_goals go_ret
              all_goals exact ⟨rfl, HF.out⟩
            · have q5 : ((Y.extract 0 X.size).toList == X.toList) = false := by simpa using HP.out.front (by omega)
              go_wp2
              all_goals go_ret
              all_goals refine ⟨?_, HF.out⟩
              all_goals (show Ending.returned (Value.bool _) = _)
              all_goals (first | rfl | (rw [q5]; simp))
          · have q1 : Op.bytesLess X.toList Y.toList = false := by rw [HP.out.less]; simp; omega
            have q2 : (X.toList == Y.toList) = true := by rw [HP.out.same]; simp; omega
            have q3 : (a0 == a1) = true := by simp; omega
            have q4 : decide (a0 < a1) = false := by simp; omega
            by_cases g2 : (Y.size : Int) ≤ (X.size : Int)
            · go_wp2
              all_goals go_ret
              all_goals exact ⟨rfl, HF.out⟩
            · have q5 : ((Y.extract 0 X.size).toList == X.toList) = false := by simpa using HP.out.front (by omega)
              go_wp2
              all_goals go_ret
              all_goals refine ⟨?_, HF.out⟩
              all_goals (show Ending.returned (Value.bool _) = _)
              all_goals (first | rfl | (rw [q5]; simp))
          · have q1 : Op.bytesLess X.toList Y.toList = false := by rw [HP.out.less]; simp; omega
            have q2 : (X.toList == Y.toList) = false := by rw [HP.out.same]; simp; omega
            have q3 : (a0 == a1) = false := by simp; omega
            have q4 : decide (a0 < a1) = false := by simp; omega
            by_cases g2 : (Y.size : Int) ≤ (X.size : Int)
            · go_wp2
              all_goals go_ret
              all_goals exact ⟨rfl, HF.out⟩
            · have q5 : ((Y.extract 0 X.size).toList == X.toList) = false := by simpa using HP.out.front (by omega)
              go_wp2
              all_goals go_ret
              all_goals refine ⟨?_, HF.out⟩
              all_goals (show Ending.returned (Value.bool _) = _)
              all_goals (first | rfl | (rw [q5]; simp))
  · have hbad : (a0 < 0 ∨ 1114111 < a0 ∨ (55296 ≤ a0 ∧ a0 ≤ 57343)) ∨ ((0 ≤ a0 ∧ a0 ≤ 1114111 ∧ ¬ (55296 ≤ a0 ∧ a0 ≤ 57343)) ∧ (a1 < 0 ∨ 1114111 < a1 ∨ (55296 ≤ a1 ∧ a1 ≤ 57343))) := by
      simp only [isSign, Bool.and_eq_true, decide_eq_true_eq, Bool.not_eq_true', decide_eq_false_iff_not] at h
      omega
    clear h
    have HBAD := Lib.hid hbad
    clear hbad
    go_enter Try.func7, Try.ntmps7
    go_wp2_with fail
    go_at_call 9
    refine (ufirst_any w).mono ?_
    rintro e wA ⟨rfl, hwA⟩
    have HA := Lib.hid hwA
    clear hwA
    go_upto_region 3 with (fail)
    go_cut [40] (fun v wx => v = .bool true ∧ wx = wA)
    case first =>
      rcases HBAD.out with (g | g | ⟨g, g'⟩) | ⟨⟨g, g', g2⟩, k⟩
      · go_wp2
        all_goals go_meet
        all_goals exact ⟨by first | rfl | (congr 1; simp; omega), rfl⟩
      · go_wp2
        all_goals go_meet
        all_goals exact ⟨by first | rfl | (congr 1; simp; omega), rfl⟩
      · have m1 : ¬ a0 < 0 := by omega
        have m2 : ¬ 1114111 < a0 := by omega
        go_wp2
        all_goals go_meet
        all_goals exact ⟨by first | rfl | (congr 1; simp; omega), rfl⟩
      · have m1 : decide (a0 < 0) = false := by simp; omega
        have m2 : decide (1114111 < a0) = false := by simp; omega
        rcases (show a0 < 55296 ∨ (55296 ≤ a0 ∧ ¬ a0 ≤ 57343) by omega) with z | ⟨z, z'⟩
        all_goals rcases k with k | k | ⟨k, k'⟩
        all_goals go_wp2
        all_goals go_meet
        all_goals exact ⟨by first | rfl | (congr 1; simp; omega), rfl⟩
    case rest =>
    obtain ⟨rfl, rfl⟩ := hcut
    go_wp2_with fail
    go_at_call 9
    refine (ufirst_any _).mono ?_
    rintro e wB ⟨rfl, hwB⟩
    have HB := Lib.hid (HA.out.trans hwB fun _ _ h => h)
    clear hwB
    go_wp2_with fail
    go_at_call 17
    refine (size_any _ 55296).mono ?_
    rintro e w' ⟨rfl, rfl⟩
    rw [show sizeR 55296 = 3 by decide]
    go_wp2_with fail
    go_at_call 17
    refine (size_any _ (-1)).mono ?_
    rintro e w' ⟨rfl, rfl⟩
    rw [show sizeR (-1) = 3 by decide]
    go_wp2
    go_ret
    exact ⟨rfl, HB.out⟩
end Go.Proofs.Ytfcgjnmbbgioiaa
