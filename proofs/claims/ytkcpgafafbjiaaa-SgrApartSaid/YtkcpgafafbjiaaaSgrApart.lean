/-
  Chapter 9: the walk of SgrApart.
-/
import Derived.Test.YtkcpgafafbjiaaaSgr6
namespace Go.Proofs.Ytkcpgafafbjiaaa
open Go.RowKit
set_option linter.unusedVariables false
set_option linter.unusedSimpArgs false

set_option maxRecDepth 100000 in
set_option maxHeartbeats 8000000 in
theorem SgrApart_walk (f0 g0 b0 a1 : Int) (w : World) (w0 : (-9223372036854775808 ≤ f0 ∧ f0 ≤ 9223372036854775807) ∧ (-9223372036854775808 ≤ g0 ∧ g0 ≤ 9223372036854775807) ∧ (-9223372036854775808 ≤ b0 ∧ b0 ≤ 9223372036854775807))
    (w1 : -9223372036854775808 ≤ a1 ∧ a1 ≤ 9223372036854775807) :
    Calls Try.prog 4 #[.agg #[.int .i64 f0, .int .i64 g0, .int .i64 b0], .int .i64 a1] w fun e w' => e = .returned (.bool true) ∧ Chg w w' nob := by
  by_cases hn : 1 ≤ a1 ∧ a1 ≤ 107 ∧ a1 ≠ 38 ∧ a1 ≠ 48
  · obtain ⟨h1, h2, h3, h4⟩ := hn
    have hap := oneF_apart (g := g0) (b := b0) w0.1 ⟨h1, h2⟩
    have happ := apply_one (a := (f0, g0, b0)) ⟨h3, h4⟩
    have happ2 := apply_one (a := oneF (f0, g0, b0) a1) ⟨h3, h4⟩
    rw [hap.2.2.2] at happ2
    obtain ⟨⟨F, G, B⟩, hx⟩ : ∃ r, oneF (f0, g0, b0) a1 = r := ⟨_, rfl⟩
    rw [hx] at hap happ happ2
    have HAP := Lib.hid (show ((30 ≤ a1 ∧ a1 ≤ 39) ∨ (90 ≤ a1 ∧ a1 ≤ 97) ∨ G = g0) ∧ ((40 ≤ a1 ∧ a1 ≤ 49) ∨ 100 ≤ a1 ∨ B = b0) ∧ (a1 ≤ 29 ∨ F = f0) from ⟨hap.1, hap.2.1, hap.2.2.1⟩)
    have HP1 := Lib.hid happ
    have HP2 := Lib.hid happ2
    clear hap happ happ2 hx w0
    have n3 : (a1 == 38) = false := by simp; exact h3
    have n4 : (a1 == 48) = false := by simp; exact h4
    have hBx : Hid (Blk (w.alloc (.cells #[.int .i64 f0, .int .i64 g0, .int .i64 b0] 23)) w.heap.size 23 #[.int .i64 f0, .int .i64 g0, .int .i64 b0]) := Lib.hid (Blk.new w _ _)
    have hCx : Hid (Chg w (w.alloc (.cells #[.int .i64 f0, .int .i64 g0, .int .i64 b0] 23)) nob) := Lib.hid ((Chg.refl w nob).alloc _)
    go_enter Try.func4, Try.ntmps4
    go_wp2_with fail
    go_at_call 6
    refine (sfirst_any _).mono ?_
    rintro e wA ⟨rfl, hwA⟩
    have HBA := Lib.hid (hBx.out.kept hwA id)
    have HCA := Lib.hid (hCx.out.trans hwA fun _ _ h => h)
    clear hwA hBx hCx
    generalize w.heap.size = p at *
    have hp0 : wA.cell? ⟨p, 0, none⟩ = some (.int .i64 f0) := by rw [HBA.out.cell]; rfl
    have hp1 : wA.cell? ⟨p, 1, none⟩ = some (.int .i64 g0) := by rw [HBA.out.cell]; rfl
    have hp2 : wA.cell? ⟨p, 2, none⟩ = some (.int .i64 b0) := by rw [HBA.out.cell]; rfl
    go_wp2_with fail
    go_at_call 9
    refine (apply_any _ f0 g0 b0 _ [a1] (Own.lit wA 3 #[.int .i64 a1] (by simp)).rd (by simpa using w1) (by simp)).mono ?_
    rw [HP1.out]
    rintro e wB ⟨rfl, hB⟩
    have HBB := Lib.hid ((HBA.out.alloc _).kept hB id)
    have HCB := Lib.hid ((HCA.out.alloc _).trans hB fun _ _ h => h)
    clear hB hp0 hp1 hp2 HBA HCA
    go_upto_region 6 with (fail)
    go_cut [6] (fun c wx => ∃ k6, c = .bool k6 ∧ Hid (k6 = false → G = g0) ∧ wx = wB.alloc (.cells #[.int .i64 F, .int .i64 G, .int .i64 B] 23))
    case first =>
      have hap := HAP.out.1
      clear HAP
      rcases (show a1 < 30 ∨ (30 ≤ a1 ∧ a1 ≤ 39) ∨ (39 < a1 ∧ a1 < 90) ∨ (90 ≤ a1 ∧ a1 ≤ 97) ∨ 97 < a1 by omega) with z | ⟨z, z'⟩ | ⟨z, z'⟩ | ⟨z, z'⟩ | z
      · have HG : Hid (G = g0) := Lib.hid (by rcases hap with h | h | h <;> first | omega | exact h)
        have z2 : a1 < 90 := by omega
        go_wp2
        go_meet
        exact ⟨_, rfl, fun _ => HG.out, rfl⟩
      · go_wp2
        go_meet
        exact ⟨_, rfl, fun h => (by first | cases h | (simp at h; omega)), rfl⟩
      · have HG : Hid (G = g0) := Lib.hid (by rcases hap with h | h | h <;> first | omega | exact h)
        have z2 : 30 ≤ a1 := by omega
        go_wp2
        go_meet
        exact ⟨_, rfl, fun _ => HG.out, rfl⟩
      · have z2 : 30 ≤ a1 := by omega
        have z3 : 39 < a1 := by omega
        go_wp2
        go_meet
        exact ⟨_, rfl, fun h => (by first | cases h | (simp at h; omega)), rfl⟩
      · have HG : Hid (G = g0) := Lib.hid (by rcases hap with h | h | h <;> first | omega | exact h)
        have z2 : 30 ≤ a1 := by omega
        have z3 : 39 < a1 := by omega
        have z4 : 90 ≤ a1 := by omega
        go_wp2
        go_meet
        exact ⟨_, rfl, fun _ => HG.out, rfl⟩
    case rest =>
    obtain ⟨k6, rfl, HK6, rfl⟩ := hcut
    go_upto_region 7 with (fail)
    go_cut [7] (fun c wx => ∃ k7, c = .bool k7 ∧ Hid (k7 = false → B = b0) ∧ wx = wB.alloc (.cells #[.int .i64 F, .int .i64 G, .int .i64 B] 23))
    case first =>
      have hap := HAP.out.2.1
      clear HAP
      rcases (show a1 < 40 ∨ (40 ≤ a1 ∧ a1 ≤ 49) ∨ (49 < a1 ∧ a1 < 100) ∨ 100 ≤ a1 by omega) with z | ⟨z, z'⟩ | ⟨z, z'⟩ | z
      · have HG : Hid (B = b0) := Lib.hid (by rcases hap with h | h | h <;> first | omega | exact h)
        have z2 : a1 < 100 := by omega
        go_wp2
        go_meet
        exact ⟨_, rfl, fun _ => HG.out, rfl⟩
      · go_wp2
        go_meet
        exact ⟨_, rfl, fun h => (by first | cases h | (simp at h; omega)), rfl⟩
      · have HG : Hid (B = b0) := Lib.hid (by rcases hap with h | h | h <;> first | omega | exact h)
        have z2 : 40 ≤ a1 := by omega
        go_wp2
        go_meet
        exact ⟨_, rfl, fun _ => HG.out, rfl⟩
      · have z2 : 40 ≤ a1 := by omega
        have z3 : 49 < a1 := by omega
        go_wp2
        go_meet
        exact ⟨_, rfl, fun h => (by first | cases h | (simp at h; omega)), rfl⟩
    case rest =>
    obtain ⟨k7, rfl, HK7, rfl⟩ := hcut
    have hB7 : Hid (Blk (wB.alloc (.cells #[.int .i64 F, .int .i64 G, .int .i64 B] 23)) wB.heap.size 23 #[.int .i64 F, .int .i64 G, .int .i64 B]) := Lib.hid (Blk.new wB _ _)
    have hP7 := Lib.hid (HBB.out.alloc (.cells #[.int .i64 F, .int .i64 G, .int .i64 B] 23))
    have hC7 := Lib.hid (HCB.out.alloc (.cells #[.int .i64 F, .int .i64 G, .int .i64 B] 23))
    clear HBB HCB
    generalize wB.alloc (.cells #[.int .i64 F, .int .i64 G, .int .i64 B] 23) = wE at *
    generalize wB.heap.size = q at *
    go_upto_region 8 with (fail)
    go_cut [8] (fun c wx => ∃ k8, c = .bool k8 ∧ Hid (k8 = false → F = f0) ∧ wx = wE)
    case first =>
      have hap := HAP.out.2.2
      clear HAP
      go_wp2
      all_goals go_meet
      all_goals exact ⟨_, rfl, fun h => (by simp at h; rcases hap with h' | h' <;> first | omega | exact h'), rfl⟩
    case rest =>
    obtain ⟨k8, rfl, HK8, rfl⟩ := hcut
    go_wp2_with fail
    cases k6 <;> cases k7 <;> cases k8
    all_goals (first | (obtain rfl := HK6.out rfl) | skip)
    all_goals (first | (obtain rfl := HK7.out rfl) | skip)
    all_goals (first | (obtain rfl := HK8.out rfl) | skip)
    all_goals clear HK6 HK7 HK8 HAP
    all_goals
      refine wp_one [5, 7, 15, 17, 25, 27, 32, 36] [0, 34, 35] [(34, [32, 36]), (35, [36])] [0, 1, 2, 3, 4, 5, 6, 7, 8, 9, 10, 11, 12, 13, 14, 15, 16, 17, 18, 19, 20, 21, 22, 23, 24, 25, 26, 27, 28, 29, 30, 31, 32, 33, 36, 34, 35, 37, 38, 39] rfl (by kernel_rfl) (fun _ _ _ _ _ h => h) ?_; simp only [List.map_cons, List.map_nil, List.getElem?_toArray, List.getElem?_cons_zero, List.getElem?_cons_succ]
      (repeat (first | (apply can0; (· rfl); (· rfl); (· (intro w'; first | (go_simp; with_reducible rfl) | (go_simp; done))); simp only [Act.put, List.setIfInBounds_toArray, List.set_cons_zero, List.set_cons_succ]) | (apply can1; (· rfl); (· rfl); (· (first | (go_simp; with_reducible rfl) | (go_simp; done))); simp only [Act.put, List.setIfInBounds_toArray, List.set_cons_zero, List.set_cons_succ]) | (apply canN; (· rfl); (· rfl); simp only [Act.put, List.setIfInBounds_toArray, List.set_cons_zero, List.set_cons_succ]) | (apply canN1; (· rfl); (· rfl); simp only [Act.put, List.setIfInBounds_toArray, List.set_cons_zero, List.set_cons_succ]) | (apply can0; (· rfl); (· (go_simp; done)); (· (intro w'; first | (go_simp; with_reducible rfl) | (go_simp; done))); simp only [Act.put, List.setIfInBounds_toArray, List.set_cons_zero, List.set_cons_succ]) | (apply can1; (· rfl); (· (go_simp; done)); (· (first | (go_simp; with_reducible rfl) | (go_simp; done))); simp only [Act.put, List.setIfInBounds_toArray, List.set_cons_zero, List.set_cons_succ]) | (apply canN; (· rfl); (· (go_simp; done)); simp only [Act.put, List.setIfInBounds_toArray, List.set_cons_zero, List.set_cons_succ]) | (apply canN1; (· rfl); (· (go_simp; done)); simp only [Act.put, List.setIfInBounds_toArray, List.set_cons_zero, List.set_cons_succ])))
      refine canW rfl [] rfl (fun K hK => ?_)
      go_simp
      go_at_call 6
      refine (sfirst_any _).mono ?_
      rintro e wF ⟨rfl, hF⟩
      have HPF := Lib.hid (hP7.out.kept (((Chg.refl _ nob).drew).trans hF fun _ _ h => h) id)
      have HQF := Lib.hid (hB7.out.kept (((Chg.refl _ nob).drew).trans hF fun _ _ h => h) id)
      have HCF := Lib.hid (hC7.out.drew.trans hF fun _ _ h => h)
      have hp0 := HPF.out.cell 0
      have hp1 := HPF.out.cell 1
      have hp2 := HPF.out.cell 2
      have hq0 := HQF.out.cell 0
      have hq1 := HQF.out.cell 1
      have hq2 := HQF.out.cell 2
      simp only [List.getElem?_toArray, List.getElem?_cons_zero, List.getElem?_cons_succ] at hp0 hp1 hp2 hq0 hq1 hq2
      clear hF hP7 hB7 hC7
      (refine hK _ _ (fun u hu => by cases hu) ?_; clear hK K; try simp only [Act.put, List.setIfInBounds_toArray, List.set_cons_zero, List.set_cons_succ])
      (repeat (first | (apply can0; (· rfl); (· rfl); (· (intro w'; first | (go_simp; with_reducible rfl) | (go_simp; done))); simp only [Act.put, List.setIfInBounds_toArray, List.set_cons_zero, List.set_cons_succ]) | (apply can1; (· rfl); (· rfl); (· (first | (go_simp; with_reducible rfl) | (go_simp; done))); simp only [Act.put, List.setIfInBounds_toArray, List.set_cons_zero, List.set_cons_succ]) | (apply canN; (· rfl); (· rfl); simp only [Act.put, List.setIfInBounds_toArray, List.set_cons_zero, List.set_cons_succ]) | (apply canN1; (· rfl); (· rfl); simp only [Act.put, List.setIfInBounds_toArray, List.set_cons_zero, List.set_cons_succ]) | (apply can0; (· rfl); (· (go_simp; done)); (· (intro w'; first | (go_simp; with_reducible rfl) | (go_simp; done))); simp only [Act.put, List.setIfInBounds_toArray, List.set_cons_zero, List.set_cons_succ]) | (apply can1; (· rfl); (· (go_simp; done)); (· (first | (go_simp; with_reducible rfl) | (go_simp; done))); simp only [Act.put, List.setIfInBounds_toArray, List.set_cons_zero, List.set_cons_succ]) | (apply canN; (· rfl); (· (go_simp; done)); simp only [Act.put, List.setIfInBounds_toArray, List.set_cons_zero, List.set_cons_succ]) | (apply canN1; (· rfl); (· (go_simp; done)); simp only [Act.put, List.setIfInBounds_toArray, List.set_cons_zero, List.set_cons_succ])))
      refine canW rfl [32, 36] rfl (fun K hK => ?_)
      go_simp
      have HPG := Lib.hid (HPF.out.alloc (.cells #[.int .i64 a1] 3))
      have HQG := Lib.hid (HQF.out.alloc (.cells #[.int .i64 a1] 3))
      have HCG := Lib.hid (HCF.out.alloc (.cells #[.int .i64 a1] 3))
      have HOG := Lib.hid (Own.lit wF 3 #[.int .i64 a1] (by simp))
      have hg0 := HQG.out.cell 0
      have hg1 := HQG.out.cell 1
      have hg2 := HQG.out.cell 2
      simp only [List.getElem?_toArray, List.getElem?_cons_zero, List.getElem?_cons_succ] at hg0 hg1 hg2
      generalize wF.alloc (.cells #[.int .i64 a1] 3) = wG at *
      (refine hK _ _ (fun u hu => by simp only [List.mem_cons, List.not_mem_nil, or_false] at hu; (first | (subst hu; exact reRun_mk rfl (by first | (go_simp; with_reducible rfl) | (go_simp; done)) (holds_at rfl)) | (rcases hu with rfl | rfl <;> exact reRun_mk rfl (by first | (go_simp; with_reducible rfl) | (go_simp; done)) (holds_at rfl)) | (rcases hu with rfl | rfl | rfl <;> exact reRun_mk rfl (by first | (go_simp; with_reducible rfl) | (go_simp; done)) (holds_at rfl)))) ?_; clear hK K; try simp only [Act.put, List.setIfInBounds_toArray, List.set_cons_zero, List.set_cons_succ])
      (repeat (first | (apply can0; (· rfl); (· rfl); (· (intro w'; first | (go_simp; with_reducible rfl) | (go_simp; done))); simp only [Act.put, List.setIfInBounds_toArray, List.set_cons_zero, List.set_cons_succ]) | (apply can1; (· rfl); (· rfl); (· (first | (go_simp; with_reducible rfl) | (go_simp; done))); simp only [Act.put, List.setIfInBounds_toArray, List.set_cons_zero, List.set_cons_succ]) | (apply canN; (· rfl); (· rfl); simp only [Act.put, List.setIfInBounds_toArray, List.set_cons_zero, List.set_cons_succ]) | (apply canN1; (· rfl); (· rfl); simp only [Act.put, List.setIfInBounds_toArray, List.set_cons_zero, List.set_cons_succ]) | (apply can0; (· rfl); (· (go_simp; done)); (· (intro w'; first | (go_simp; with_reducible rfl) | (go_simp; done))); simp only [Act.put, List.setIfInBounds_toArray, List.set_cons_zero, List.set_cons_succ]) | (apply can1; (· rfl); (· (go_simp; done)); (· (first | (go_simp; with_reducible rfl) | (go_simp; done))); simp only [Act.put, List.setIfInBounds_toArray, List.set_cons_zero, List.set_cons_succ]) | (apply canN; (· rfl); (· (go_simp; done)); simp only [Act.put, List.setIfInBounds_toArray, List.set_cons_zero, List.set_cons_succ]) | (apply canN1; (· rfl); (· (go_simp; done)); simp only [Act.put, List.setIfInBounds_toArray, List.set_cons_zero, List.set_cons_succ])))
      refine canW rfl [36] rfl (fun K hK => ?_)
      go_simp
      go_at_call 9
      refine (apply_any wG _ _ _ _ [a1] HOG.out.rd (by simpa using w1) (by simp)).mono ?_
      rw [HP2.out]
      rintro e wH ⟨rfl, hH⟩
      have HQH := Lib.hid (HQG.out.kept hH id)
      have HCH := Lib.hid (HCG.out.trans hH fun _ _ h => h)
      have hh0 := HQH.out.cell 0
      have hh1 := HQH.out.cell 1
      have hh2 := HQH.out.cell 2
      simp only [List.getElem?_toArray, List.getElem?_cons_zero, List.getElem?_cons_succ] at hh0 hh1 hh2
      clear hH HOG hg0 hg1 hg2 hp0 hp1 hp2 hq0 hq1 hq2
      (refine hK _ _ (fun u hu => by simp only [List.mem_cons, List.not_mem_nil, or_false] at hu; (first | (subst hu; exact reRun_mk rfl (by first | (go_simp; with_reducible rfl) | (go_simp; done)) (holds_at rfl)) | (rcases hu with rfl | rfl <;> exact reRun_mk rfl (by first | (go_simp; with_reducible rfl) | (go_simp; done)) (holds_at rfl)) | (rcases hu with rfl | rfl | rfl <;> exact reRun_mk rfl (by first | (go_simp; with_reducible rfl) | (go_simp; done)) (holds_at rfl)))) ?_; clear hK K; try simp only [Act.put, List.setIfInBounds_toArray, List.set_cons_zero, List.set_cons_succ])
      (repeat (first | (apply can0; (· rfl); (· rfl); (· (intro w'; first | (go_simp; with_reducible rfl) | (go_simp; done))); simp only [Act.put, List.setIfInBounds_toArray, List.set_cons_zero, List.set_cons_succ]) | (apply can1; (· rfl); (· rfl); (· (first | (go_simp; with_reducible rfl) | (go_simp; done))); simp only [Act.put, List.setIfInBounds_toArray, List.set_cons_zero, List.set_cons_succ]) | (apply canN; (· rfl); (· rfl); simp only [Act.put, List.setIfInBounds_toArray, List.set_cons_zero, List.set_cons_succ]) | (apply canN1; (· rfl); (· rfl); simp only [Act.put, List.setIfInBounds_toArray, List.set_cons_zero, List.set_cons_succ]) | (apply can0; (· rfl); (· (go_simp; done)); (· (intro w'; first | (go_simp; with_reducible rfl) | (go_simp; done))); simp only [Act.put, List.setIfInBounds_toArray, List.set_cons_zero, List.set_cons_succ]) | (apply can1; (· rfl); (· (go_simp; done)); (· (first | (go_simp; with_reducible rfl) | (go_simp; done))); simp only [Act.put, List.setIfInBounds_toArray, List.set_cons_zero, List.set_cons_succ]) | (apply canN; (· rfl); (· (go_simp; done)); simp only [Act.put, List.setIfInBounds_toArray, List.set_cons_zero, List.set_cons_succ]) | (apply canN1; (· rfl); (· (go_simp; done)); simp only [Act.put, List.setIfInBounds_toArray, List.set_cons_zero, List.set_cons_succ])))
      refine canE ?_
      go_wp2
      go_ret
      exact ⟨rfl, HCH.out⟩
  · have hC : Hid (Chg w (w.alloc (.cells #[.int .i64 f0, .int .i64 g0, .int .i64 b0] 23)) nob) := Lib.hid ((Chg.refl w nob).alloc _)
    rcases (show a1 < 1 ∨ (1 ≤ a1 ∧ 107 < a1) ∨ a1 = 38 ∨ a1 = 48 by omega) with z | ⟨z, z'⟩ | rfl | rfl
    all_goals
      go_enter Try.func4, Try.ntmps4
      go_wp2_with fail
      go_at_call 6
      refine (sfirst_any _).mono ?_
      rintro e wA ⟨rfl, hwA⟩
      have HA := Lib.hid (hC.out.trans hwA fun _ _ h => h)
      clear hwA
      go_wp2_with fail
      go_at_call 6
      refine (sfirst_any _).mono ?_
      rintro e wB ⟨rfl, hwB⟩
      go_wp2
      go_ret
      exact ⟨rfl, HA.out.trans hwB fun _ _ h => h⟩
end Go.Proofs.Ytkcpgafafbjiaaa
