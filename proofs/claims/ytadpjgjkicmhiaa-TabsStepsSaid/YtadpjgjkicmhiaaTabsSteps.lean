/-
  Chapter 10: the walk of TabsSteps.
-/
import Derived.Test.YtadpjgjkicmhiaaTabs5
import Derived.Deep.DeepCutAuto
namespace Go.Proofs.Ytadpjgjkicmhiaa
open Go.RowKit
set_option linter.unusedVariables false
set_option linter.unusedSimpArgs false
attribute [local go_sem ↓] run_min_two run_max_two

/-- The guard of the law. -/
theorem steps_early (w : World) (c : Int) (v : Value) (n m : Int) (h : True) : True := trivial

set_option maxRecDepth 100000 in
set_option maxHeartbeats 8000000 in
theorem TabsSteps_walk (a0 : Int) (a1 : Option Addr) (len1 cap1 : Nat) (l1 : List Int) (a2 a3 : Int) (w : World) (hr1 : Rd w 1 (.slice a1 len1 cap1) len1 (intI l1)) (hl1 : l1.length = len1) (y1 : len1 * 8 ≤ 140737488351232)
    (w0 : -9223372036854775808 ≤ a0 ∧ a0 ≤ 9223372036854775807) (w1 : ∀ x ∈ l1, -9223372036854775808 ≤ x ∧ x ≤ 9223372036854775807) (w2 : -9223372036854775808 ≤ a2 ∧ a2 ≤ 9223372036854775807) (w3 : -9223372036854775808 ≤ a3 ∧ a3 ≤ 9223372036854775807) :
    Calls Try.prog 3 #[.int .i64 a0, .slice a1 len1 cap1, .int .i64 a2, .int .i64 a3] w fun e w' => e = .returned (.bool true) ∧ Chg w w' nob := by
  by_cases hc : 1 ≤ a0 ∧ a0 ≤ 200
  · obtain ⟨cn, hcn⟩ := Int.eq_ofNat_of_zero_le (show 0 ≤ a0 by omega)
    by_cases hE : len1 ≤ 200 ∧ 0 ≤ a2 ∧ a2 < a0 ∧ 1 ≤ a3 ∧ a3 ≤ 50
    · obtain ⟨h1, h2, h3, h4, h5⟩ := hE
      obtain ⟨c2, rfl⟩ := Int.eq_ofNat_of_zero_le h2
      obtain ⟨n3, rfl⟩ := Int.eq_ofNat_of_zero_le (show 0 ≤ a3 by omega)
      subst hcn
      have hR : ∀ wr, Chg w wr nob → ∀ k, k < len1 → ∃ b o, a1 = some ⟨b, o, none⟩ ∧ b < w.heap.size ∧ wr.cell? ⟨b, o + k, none⟩ = some (.int .i64 (l1.getD k 0)) := fun wr hch k hk => by
        obtain ⟨b, o, h1, h2⟩ := hr1.cell (j := k) (u := .int .i64 (l1.getD k 0)) (by simp [intI, List.getD, show k < l1.length by omega])
        exact ⟨b, o, h1, World.block_lt_of_cell? w _ h2, hch.cell h2 id⟩
      have hxx : ∀ k, k < len1 → -9223372036854775808 ≤ l1.getD k 0 ∧ l1.getD k 0 ≤ 9223372036854775807 := fun k hk => w1 _ (by simp [List.getD, show k < l1.length by omega])
      have HR := Lib.hid hR
      have HX := Lib.hid hxx
      have HL := Lib.hid hl1
      clear hR hxx w1 hr1 hl1 h2
      go_enter Try.func3, Try.ntmps3
      go_wp2_with fail
      go_at_call 6
      refine (first_any w).mono ?_
      rintro e wA ⟨rfl, hA⟩
      have HA := Lib.hid hA
      clear hA
      go_wp2_with fail
      go_at_call 7
      refine (new_any wA (cn : Int) (by omega) (by omega)).mono ?_
      rintro e wB ⟨b, F, rfl, hs, hB, hF⟩
      have HB := Lib.hid hB
      have HS := Lib.hid hs
      have HF := Lib.hid hF
      clear hB hs hF
      go_wp2_with fail
      go_at_call 8
      have hlen : (fresh 0 (cn : Int).toNat).length = cn := by simp [fresh]
      refine (clearAll_any wB b _ F HS.out (by rw [hlen]; omega)).mono ?_
      rw [hlen]
      rintro e wC ⟨rfl, hC, FC, hsC, hFC⟩
      have hch : Chg w wC nob := ((HA.out.trans HB.out fun _ _ h => h).trans hC fun i hi h => by
        have := HF.out i h; have := HA.out.size; omega)
      have hFw : ∀ k, FC k → w.heap.size ≤ k := fun k hk => by
        have := HA.out.size
        have := HB.out.size
        rcases hFC k hk with h | h
        · have := HF.out k h; omega
        · omega
      have HC := Lib.hid hch
      have HSC := Lib.hid hsC
      have HFC := Lib.hid hFw
      clear hC hsC hFC hch hFw HS HF HB HA hlen
      go_wp2_with fail
      go_loopw [11] (fun i wr => ∃ k : Nat, k ≤ len1 ∧ i = .int .i64 k ∧ ∃ l F, Hid (Stops wr b l F ∧ l.length = cn ∧ Chg w wr nob ∧ ∀ k, F k → w.heap.size ≤ k)) (fun i _ => len1 - (intOf i).toNat)
      case atStart => exact ⟨0, Nat.zero_le _, rfl, _, FC, HSC.out, by simp, HC.out, HFC.out⟩
      case round =>
        obtain ⟨k, hk, rfl, l, FR, HI⟩ := hrel
        clear HC HSC HFC
        by_cases hkl : k < len1
        · obtain ⟨b1, o1, rfl, hb1, hc1⟩ := HR.out wr HI.out.2.2.1 k hkl
          obtain ⟨x1, x2⟩ := HX.out k hkl
          generalize l1.getD k 0 = x at hc1 x1 x2
          have hki : (k : Int) < (len1 : Int) := by omega
          have HLN := Lib.hid HI.out.2.1
          clear HR
          rcases (show (x < 0) ∨ (0 ≤ x ∧ (cn : Int) ≤ x) ∨ (0 ≤ x ∧ x < (cn : Int)) by omega) with hx | hx | hx
          · have hd1 : decide (0 ≤ x) = false := by simp only [decide_eq_false_iff_not]; omega
            go_wp2
            refine wp_one [4, 9, 15] [5] [(5, [9])] [0, 1, 2, 3, 4, 6, 7, 8, 9, 10, 5, 11, 12, 13, 14, 15, 16, 17, 18, 19] rfl (by kernel_rfl) (fun _ _ _ _ _ h => h) ?_; simp only [List.map_cons, List.map_nil, List.getElem?_toArray, List.getElem?_cons_zero, List.getElem?_cons_succ]
            (repeat (first | (apply can0; (· rfl); (· rfl); (· (intro w'; first | (go_simp; with_reducible rfl) | (go_simp; done))); simp only [Act.put, List.setIfInBounds_toArray, List.set_cons_zero, List.set_cons_succ]) | (apply can1; (· rfl); (· rfl); (· (first | (go_simp; with_reducible rfl) | (go_simp; done))); simp only [Act.put, List.setIfInBounds_toArray, List.set_cons_zero, List.set_cons_succ]) | (apply canN; (· rfl); (· rfl); simp only [Act.put, List.setIfInBounds_toArray, List.set_cons_zero, List.set_cons_succ]) | (apply canN1; (· rfl); (· rfl); simp only [Act.put, List.setIfInBounds_toArray, List.set_cons_zero, List.set_cons_succ]) | (apply can0; (· rfl); (· (go_simp; done)); (· (intro w'; first | (go_simp; with_reducible rfl) | (go_simp; done))); simp only [Act.put, List.setIfInBounds_toArray, List.set_cons_zero, List.set_cons_succ]) | (apply can1; (· rfl); (· (go_simp; done)); (· (first | (go_simp; with_reducible rfl) | (go_simp; done))); simp only [Act.put, List.setIfInBounds_toArray, List.set_cons_zero, List.set_cons_succ]) | (apply canN; (· rfl); (· (go_simp; done)); simp only [Act.put, List.setIfInBounds_toArray, List.set_cons_zero, List.set_cons_succ]) | (apply canN1; (· rfl); (· (go_simp; done)); simp only [Act.put, List.setIfInBounds_toArray, List.set_cons_zero, List.set_cons_succ])))
            refine canW rfl [9] rfl (fun K hK => ?_)
            go_simp
            go_at_call 9
            refine (set_some wr.drew b l FR x HI.out.1).mono ?_
            rintro e w4 ⟨rfl, l', hl', hu⟩
            rw [HLN.out]
            have hc4 : w4.cell? ⟨b1, o1 + k, none⟩ = some (.int .i64 x) := hu.1.cell hc1 (fun h => by have := HI.out.2.2.2 _ h; simp at this; omega)
            have HU := Lib.hid hu
            have HL' := Lib.hid hl'
            clear hu hl'
            have hd : decide (0 ≤ x ∧ x < (cn : Int)) = false := by simp only [decide_eq_false_iff_not]; omega
            rw [hd]
            (refine hK _ _ (fun u hu => by simp only [List.mem_cons, List.not_mem_nil, or_false] at hu; (first | (subst hu; exact reRun_mk rfl (by first | (go_simp; with_reducible rfl) | (go_simp; done)) (holds_at rfl)) | (rcases hu with rfl | rfl <;> exact reRun_mk rfl (by first | (go_simp; with_reducible rfl) | (go_simp; done)) (holds_at rfl)) | (rcases hu with rfl | rfl | rfl <;> exact reRun_mk rfl (by first | (go_simp; with_reducible rfl) | (go_simp; done)) (holds_at rfl)))) ?_; clear hK K; try simp only [Act.put, List.setIfInBounds_toArray, List.set_cons_zero, List.set_cons_succ])
            (repeat (first | (apply can0; (· rfl); (· rfl); (· (intro w'; first | (go_simp; with_reducible rfl) | (go_simp; done))); simp only [Act.put, List.setIfInBounds_toArray, List.set_cons_zero, List.set_cons_succ]) | (apply can1; (· rfl); (· rfl); (· (first | (go_simp; with_reducible rfl) | (go_simp; done))); simp only [Act.put, List.setIfInBounds_toArray, List.set_cons_zero, List.set_cons_succ]) | (apply canN; (· rfl); (· rfl); simp only [Act.put, List.setIfInBounds_toArray, List.set_cons_zero, List.set_cons_succ]) | (apply canN1; (· rfl); (· rfl); simp only [Act.put, List.setIfInBounds_toArray, List.set_cons_zero, List.set_cons_succ]) | (apply can0; (· rfl); (· (go_simp; done)); (· (intro w'; first | (go_simp; with_reducible rfl) | (go_simp; done))); simp only [Act.put, List.setIfInBounds_toArray, List.set_cons_zero, List.set_cons_succ]) | (apply can1; (· rfl); (· (go_simp; done)); (· (first | (go_simp; with_reducible rfl) | (go_simp; done))); simp only [Act.put, List.setIfInBounds_toArray, List.set_cons_zero, List.set_cons_succ]) | (apply canN; (· rfl); (· (go_simp; done)); simp only [Act.put, List.setIfInBounds_toArray, List.set_cons_zero, List.set_cons_succ]) | (apply canN1; (· rfl); (· (go_simp; done)); simp only [Act.put, List.setIfInBounds_toArray, List.set_cons_zero, List.set_cons_succ])))
            refine canE ?_
            go_wp2
            go_roundw
            case rel =>
              obtain ⟨i1, i2, i3, i4⟩ := HI.out
              obtain ⟨u1, F', u2, u3⟩ := HU.out
              refine ⟨k + 1, by omega, by go_num, l', F', u2, HL'.out.trans i2, i3.drew.trans u1 (fun i hi h => by have := i4 i h; omega), fun y hy => ?_⟩
              have := i3.size
              rcases u3 y hy with h | h
              · exact i4 y h
              · simp at h; omega
            case measure => simp [intOf]; omega
          · have hd2 : decide (x < (cn : Int)) = false := by simp only [decide_eq_false_iff_not]; omega
            have hd1 : decide (0 ≤ x) = true := by simp only [decide_eq_true_eq]; omega
            go_wp2
            refine wp_one [4, 9, 15] [5] [(5, [9])] [0, 1, 2, 3, 4, 6, 7, 8, 9, 10, 5, 11, 12, 13, 14, 15, 16, 17, 18, 19] rfl (by kernel_rfl) (fun _ _ _ _ _ h => h) ?_; simp only [List.map_cons, List.map_nil, List.getElem?_toArray, List.getElem?_cons_zero, List.getElem?_cons_succ]
            (repeat (first | (apply can0; (· rfl); (· rfl); (· (intro w'; first | (go_simp; with_reducible rfl) | (go_simp; done))); simp only [Act.put, List.setIfInBounds_toArray, List.set_cons_zero, List.set_cons_succ]) | (apply can1; (· rfl); (· rfl); (· (first | (go_simp; with_reducible rfl) | (go_simp; done))); simp only [Act.put, List.setIfInBounds_toArray, List.set_cons_zero, List.set_cons_succ]) | (apply canN; (· rfl); (· rfl); simp only [Act.put, List.setIfInBounds_toArray, List.set_cons_zero, List.set_cons_succ]) | (apply canN1; (· rfl); (· rfl); simp only [Act.put, List.setIfInBounds_toArray, List.set_cons_zero, List.set_cons_succ]) | (apply can0; (· rfl); (· (go_simp; done)); (· (intro w'; first | (go_simp; with_reducible rfl) | (go_simp; done))); simp only [Act.put, List.setIfInBounds_toArray, List.set_cons_zero, List.set_cons_succ]) | (apply can1; (· rfl); (· (go_simp; done)); (· (first | (go_simp; with_reducible rfl) | (go_simp; done))); simp only [Act.put, List.setIfInBounds_toArray, List.set_cons_zero, List.set_cons_succ]) | (apply canN; (· rfl); (· (go_simp; done)); simp only [Act.put, List.setIfInBounds_toArray, List.set_cons_zero, List.set_cons_succ]) | (apply canN1; (· rfl); (· (go_simp; done)); simp only [Act.put, List.setIfInBounds_toArray, List.set_cons_zero, List.set_cons_succ])))
            refine canW rfl [9] rfl (fun K hK => ?_)
            go_simp
            go_at_call 9
            refine (set_some wr.drew b l FR x HI.out.1).mono ?_
            rintro e w4 ⟨rfl, l', hl', hu⟩
            rw [HLN.out]
            have hc4 : w4.cell? ⟨b1, o1 + k, none⟩ = some (.int .i64 x) := hu.1.cell hc1 (fun h => by have := HI.out.2.2.2 _ h; simp at this; omega)
            have HU := Lib.hid hu
            have HL' := Lib.hid hl'
            clear hu hl'
            have hd : decide (0 ≤ x ∧ x < (cn : Int)) = false := by simp only [decide_eq_false_iff_not]; omega
            rw [hd]
            (refine hK _ _ (fun u hu => by simp only [List.mem_cons, List.not_mem_nil, or_false] at hu; (first | (subst hu; exact reRun_mk rfl (by first | (go_simp; with_reducible rfl) | (go_simp; done)) (holds_at rfl)) | (rcases hu with rfl | rfl <;> exact reRun_mk rfl (by first | (go_simp; with_reducible rfl) | (go_simp; done)) (holds_at rfl)) | (rcases hu with rfl | rfl | rfl <;> exact reRun_mk rfl (by first | (go_simp; with_reducible rfl) | (go_simp; done)) (holds_at rfl)))) ?_; clear hK K; try simp only [Act.put, List.setIfInBounds_toArray, List.set_cons_zero, List.set_cons_succ])
            (repeat (first | (apply can0; (· rfl); (· rfl); (· (intro w'; first | (go_simp; with_reducible rfl) | (go_simp; done))); simp only [Act.put, List.setIfInBounds_toArray, List.set_cons_zero, List.set_cons_succ]) | (apply can1; (· rfl); (· rfl); (· (first | (go_simp; with_reducible rfl) | (go_simp; done))); simp only [Act.put, List.setIfInBounds_toArray, List.set_cons_zero, List.set_cons_succ]) | (apply canN; (· rfl); (· rfl); simp only [Act.put, List.setIfInBounds_toArray, List.set_cons_zero, List.set_cons_succ]) | (apply canN1; (· rfl); (· rfl); simp only [Act.put, List.setIfInBounds_toArray, List.set_cons_zero, List.set_cons_succ]) | (apply can0; (· rfl); (· (go_simp; done)); (· (intro w'; first | (go_simp; with_reducible rfl) | (go_simp; done))); simp only [Act.put, List.setIfInBounds_toArray, List.set_cons_zero, List.set_cons_succ]) | (apply can1; (· rfl); (· (go_simp; done)); (· (first | (go_simp; with_reducible rfl) | (go_simp; done))); simp only [Act.put, List.setIfInBounds_toArray, List.set_cons_zero, List.set_cons_succ]) | (apply canN; (· rfl); (· (go_simp; done)); simp only [Act.put, List.setIfInBounds_toArray, List.set_cons_zero, List.set_cons_succ]) | (apply canN1; (· rfl); (· (go_simp; done)); simp only [Act.put, List.setIfInBounds_toArray, List.set_cons_zero, List.set_cons_succ])))
            refine canE ?_
            go_wp2
            go_roundw
            case rel =>
              obtain ⟨i1, i2, i3, i4⟩ := HI.out
              obtain ⟨u1, F', u2, u3⟩ := HU.out
              refine ⟨k + 1, by omega, by go_num, l', F', u2, HL'.out.trans i2, i3.drew.trans u1 (fun i hi h => by have := i4 i h; omega), fun y hy => ?_⟩
              have := i3.size
              rcases u3 y hy with h | h
              · exact i4 y h
              · simp at h; omega
            case measure => simp [intOf]; omega
          · have hd2 : decide (x < (cn : Int)) = true := by simp only [decide_eq_true_eq]; omega
            have hd1 : decide (0 ≤ x) = true := by simp only [decide_eq_true_eq]; omega
            go_wp2
            refine wp_one [4, 9, 15] [5] [(5, [9])] [0, 1, 2, 3, 4, 6, 7, 8, 9, 10, 5, 11, 12, 13, 14, 15, 16, 17, 18, 19] rfl (by kernel_rfl) (fun _ _ _ _ _ h => h) ?_; simp only [List.map_cons, List.map_nil, List.getElem?_toArray, List.getElem?_cons_zero, List.getElem?_cons_succ]
            (repeat (first | (apply can0; (· rfl); (· rfl); (· (intro w'; first | (go_simp; with_reducible rfl) | (go_simp; done))); simp only [Act.put, List.setIfInBounds_toArray, List.set_cons_zero, List.set_cons_succ]) | (apply can1; (· rfl); (· rfl); (· (first | (go_simp; with_reducible rfl) | (go_simp; done))); simp only [Act.put, List.setIfInBounds_toArray, List.set_cons_zero, List.set_cons_succ]) | (apply canN; (· rfl); (· rfl); simp only [Act.put, List.setIfInBounds_toArray, List.set_cons_zero, List.set_cons_succ]) | (apply canN1; (· rfl); (· rfl); simp only [Act.put, List.setIfInBounds_toArray, List.set_cons_zero, List.set_cons_succ]) | (apply can0; (· rfl); (· (go_simp; done)); (· (intro w'; first | (go_simp; with_reducible rfl) | (go_simp; done))); simp only [Act.put, List.setIfInBounds_toArray, List.set_cons_zero, List.set_cons_succ]) | (apply can1; (· rfl); (· (go_simp; done)); (· (first | (go_simp; with_reducible rfl) | (go_simp; done))); simp only [Act.put, List.setIfInBounds_toArray, List.set_cons_zero, List.set_cons_succ]) | (apply canN; (· rfl); (· (go_simp; done)); simp only [Act.put, List.setIfInBounds_toArray, List.set_cons_zero, List.set_cons_succ]) | (apply canN1; (· rfl); (· (go_simp; done)); simp only [Act.put, List.setIfInBounds_toArray, List.set_cons_zero, List.set_cons_succ])))
            refine canW rfl [9] rfl (fun K hK => ?_)
            go_simp
            go_at_call 9
            refine (set_some wr.drew b l FR x HI.out.1).mono ?_
            rintro e w4 ⟨rfl, l', hl', hu⟩
            rw [HLN.out]
            have hc4 : w4.cell? ⟨b1, o1 + k, none⟩ = some (.int .i64 x) := hu.1.cell hc1 (fun h => by have := HI.out.2.2.2 _ h; simp at this; omega)
            have HU := Lib.hid hu
            have HL' := Lib.hid hl'
            clear hu hl'
            have hd : decide (0 ≤ x ∧ x < (cn : Int)) = true := by simp only [decide_eq_true_eq]; omega
            rw [hd]
            (refine hK _ _ (fun u hu => by simp only [List.mem_cons, List.not_mem_nil, or_false] at hu; (first | (subst hu; exact reRun_mk rfl (by first | (go_simp; with_reducible rfl) | (go_simp; done)) (holds_at rfl)) | (rcases hu with rfl | rfl <;> exact reRun_mk rfl (by first | (go_simp; with_reducible rfl) | (go_simp; done)) (holds_at rfl)) | (rcases hu with rfl | rfl | rfl <;> exact reRun_mk rfl (by first | (go_simp; with_reducible rfl) | (go_simp; done)) (holds_at rfl)))) ?_; clear hK K; try simp only [Act.put, List.setIfInBounds_toArray, List.set_cons_zero, List.set_cons_succ])
            (repeat (first | (apply can0; (· rfl); (· rfl); (· (intro w'; first | (go_simp; with_reducible rfl) | (go_simp; done))); simp only [Act.put, List.setIfInBounds_toArray, List.set_cons_zero, List.set_cons_succ]) | (apply can1; (· rfl); (· rfl); (· (first | (go_simp; with_reducible rfl) | (go_simp; done))); simp only [Act.put, List.setIfInBounds_toArray, List.set_cons_zero, List.set_cons_succ]) | (apply canN; (· rfl); (· rfl); simp only [Act.put, List.setIfInBounds_toArray, List.set_cons_zero, List.set_cons_succ]) | (apply canN1; (· rfl); (· rfl); simp only [Act.put, List.setIfInBounds_toArray, List.set_cons_zero, List.set_cons_succ]) | (apply can0; (· rfl); (· (go_simp; done)); (· (intro w'; first | (go_simp; with_reducible rfl) | (go_simp; done))); simp only [Act.put, List.setIfInBounds_toArray, List.set_cons_zero, List.set_cons_succ]) | (apply can1; (· rfl); (· (go_simp; done)); (· (first | (go_simp; with_reducible rfl) | (go_simp; done))); simp only [Act.put, List.setIfInBounds_toArray, List.set_cons_zero, List.set_cons_succ]) | (apply canN; (· rfl); (· (go_simp; done)); simp only [Act.put, List.setIfInBounds_toArray, List.set_cons_zero, List.set_cons_succ]) | (apply canN1; (· rfl); (· (go_simp; done)); simp only [Act.put, List.setIfInBounds_toArray, List.set_cons_zero, List.set_cons_succ])))
            refine canE ?_
            go_wp2
            go_roundw
            case rel =>
              obtain ⟨i1, i2, i3, i4⟩ := HI.out
              obtain ⟨u1, F', u2, u3⟩ := HU.out
              refine ⟨k + 1, by omega, by go_num, l', F', u2, HL'.out.trans i2, i3.drew.trans u1 (fun i hi h => by have := i4 i h; omega), fun y hy => ?_⟩
              have := i3.size
              rcases u3 y hy with h | h
              · exact i4 y h
              · simp at h; omega
            case measure => simp [intOf]; omega
        · obtain rfl : k = len1 := by omega
          obtain ⟨i1, i2, i3, i4⟩ := HI.out
          have HS := Lib.hid i1
          have HLN := Lib.hid i2
          have HC := Lib.hid i3
          have HFw := Lib.hid i4
          clear HR HX i1 i2 i3 i4
          go_wp2
          obtain ⟨wo, rfl⟩ : ∃ wo : World, wo = wr := ⟨_, rfl⟩
          go_loopw [12, 13, 14] (fun p q i wt => ∃ m : Nat, m ≤ n3 ∧ i = .int .i64 m ∧ p = .int .i64 (ups l m c2) ∧ q = .int .i64 (dns l m c2) ∧ Hid (Chg wo wt nob)) (fun _ _ i _ => n3 - (intOf i).toNat)
          case atStart => exact ⟨0, Nat.zero_le _, rfl, rfl, rfl, Chg.refl _ _⟩
          case round =>
            obtain ⟨m, hm, rfl, rfl, rfl, HT⟩ := hrel
            obtain ⟨wt, rfl⟩ : ∃ wt : World, wt = wr := ⟨_, rfl⟩
            have hcl : c2 < l.length := by rw [HLN.out]; omega
            have hu1 := ups_lt hcl m
            have hd1 := dns_lt hcl m
            rw [HLN.out] at hu1 hd1
            by_cases hmn : m < n3
            · have hS : Stops wt b l FR := HS.out.kept HT.out (fun _ _ => id)
              have hnx : nextF l (ups l m c2 : Nat) 1 = _ := next_nat (l := l) (c := ups l m c2) (n := 1) (by rw [HLN.out]; exact hu1) (by omega)
              have hpv : prevF l (dns l m c2 : Nat) 1 = _ := prev_nat (l := l) (c := dns l m c2) (n := 1) (by rw [HLN.out]; exact hd1) (by omega)
              have f1 := up_le l (l.length - 1 - ups l m c2) (ups l m c2) 1
              have f2 := dn_le l (dns l m c2) 1
              have f3 := @up_moves l (l.length - 1 - ups l m c2) (ups l m c2)
              have f4 := @dn_moves l (dns l m c2)
              have f5 := up_one l (l.length - 1 - ups l m c2) (ups l m c2)
              have f6 := dn_one l (dns l m c2)
              rw [← hnx] at f1 f3 f5
              rw [← hpv] at f2 f4 f6
              have e1 : ups l (m + 1) c2 = nextF l (ups l m c2 : Nat) 1 := rfl
              have e2 : dns l (m + 1) c2 = prevF l (dns l m c2 : Nat) 1 := rfl
              rw [← e1] at f1 f3 f5
              rw [← e2] at f2 f4 f6
              have E1 := Lib.hid e1
              have E2 := Lib.hid e2
              clear e1 e2 hnx hpv
              rw [HLN.out] at f1 f3
              generalize ups l m c2 = A at *
              generalize dns l m c2 = B at *
              generalize hCC : ups l (m + 1) c2 = C at *
              generalize hDD : dns l (m + 1) c2 = D at *
              have HCC := Lib.hid hCC
              have HDD := Lib.hid hDD
              clear hCC hDD
              have F5 := Lib.hid f5
              have F6 := Lib.hid f6
              have HS2 := Lib.hid hS
              clear f5 f6 hS
              go_upto_region 17 with (first
                | (go_at_call 10; refine (next_any _ b l FR _ _ HS2.out (by rw [HLN.out]; omega) (by omega) (by omega) (by omega) (by omega)).mono ?_; rintro e w2 ⟨rfl, rfl⟩; rw [← E1.out])
                | (go_at_call 11; refine (prev_any _ b l FR _ _ HS2.out (by rw [HLN.out]; omega) (by omega) (by omega) (by omega) (by omega)).mono ?_; rintro e w2 ⟨rfl, rfl⟩; rw [← E2.out]))
              go_cut [12, 13, 15, 16, 123] (fun p q r s t wx => p = .int .i64 A ∧ q = .int .i64 B ∧ r = .int .i64 C ∧ s = .int .i64 D ∧ t = .bool false ∧ wx = w2)
              case first =>
                go_wp2
                all_goals go_meet
                all_goals (refine ⟨by go_num, by go_num, by go_num, by go_num, ?_, rfl⟩)
                all_goals (congr 1; simp; omega)
              case rest =>
                obtain ⟨rfl, rfl, rfl, rfl, rfl, rfl⟩ := hcut
                go_wp2_with fail
                go_at_call 12
                refine (list_any _ b l FR HS2.out).mono ?_
                rintro e w3 ⟨v, rfl, ho, h3, hf3⟩
                obtain ⟨av, cv, rfl, _⟩ := ho.form
                have hle : (stopsOf l).length ≤ 200 := by have := stopsFrom_le l 0; have := HLN.out; unfold stopsOf; omega
                have hV : ∀ k, k < (stopsOf l).length → ∃ g, av = some ⟨g, 0, none⟩ ∧ w3.cell? ⟨g, k, none⟩ = some (.int .i64 ((stopsOf l).getD k 0 : Nat)) := fun k hk => by
                  obtain ⟨g, h1, h2⟩ := ho.at hk
                  exact ⟨g, h1, by rw [h2]; simp [intsV, List.getD, hk]⟩
                have hX : ∀ k, k < (stopsOf l).length → ¬ (A < (stopsOf l).getD k 0 ∧ (stopsOf l).getD k 0 < C) ∧ ¬ ((stopsOf l).getD k 0 < B ∧ D < (stopsOf l).getD k 0) := fun k hk => by
                  have hm := (stopsOf_mem (l := l) (x := (stopsOf l).getD k 0) (by simp [List.getD, hk])).2
                  refine ⟨fun ⟨h1, h2⟩ => ?_, fun ⟨h1, h2⟩ => ?_⟩
                  · rw [F5.out _ h1 h2] at hm; cases hm
                  · rw [F6.out _ h1 h2] at hm; cases hm
                have HV := Lib.hid hV
                have HXX := Lib.hid hX
                have H3 := Lib.hid h3
                clear hV hX h3 ho hf3
                generalize stopsOf l = L at *
                go_wp2_with fail
                go_loop [18] (fun i => ∃ k : Nat, k ≤ L.length ∧ i = .int .i64 k) (fun i => L.length - (intOf i).toNat)
                case atStart => exact ⟨0, Nat.zero_le _, rfl⟩
                case round =>
                  obtain ⟨y, hy, rfl⟩ := hrel
                  by_cases hyl : y < L.length
                  · obtain ⟨g, rfl, hcy⟩ := HV.out y hyl
                    obtain ⟨x1, x2⟩ := HXX.out y hyl
                    generalize L.getD y 0 = x at hcy x1 x2
                    go_upto_region 23 with (fail)
                    go_cut [161] (fun t wx => t = .bool false ∧ wx = w3)
                    case first =>
                      go_wp2
                      all_goals go_meet
                      all_goals (refine ⟨?_, rfl⟩)
                      all_goals (first | rfl | (congr 1; simp; omega))
                    case rest =>
                      obtain ⟨rfl, rfl⟩ := hcut
                      go_wp2
                      go_round
                      case rel => exact ⟨y + 1, by omega, by go_num⟩
                      case measure => simp [intOf]; omega
                  · obtain rfl : y = L.length := by omega
                    go_wp2
                    go_roundw
                    case rel =>
                      refine ⟨m + 1, by omega, by go_num, by rw [HCC.out], by rw [HDD.out], HT.out.trans H3.out fun _ _ h => h⟩
                    case measure => simp [intOf]; omega
            · obtain rfl : m = n3 := by omega
              have hnn : nextF l (c2 : Int) (m : Int) = ups l m c2 := by
                obtain ⟨q, rfl⟩ : ∃ q, m = q + 1 := ⟨m - 1, by omega⟩
                exact next_ups q hcl
              have hpp : prevF l (c2 : Int) (m : Int) = dns l m c2 := by
                obtain ⟨q, rfl⟩ : ∃ q, m = q + 1 := ⟨m - 1, by omega⟩
                exact prev_dns q hcl
              generalize ups l m c2 = A at *
              generalize dns l m c2 = B at *
              clear hcl
              go_wp2_with fail
              go_at_call 6
              refine (first_any wt).mono ?_
              rintro e wE ⟨rfl, hE⟩
              have HE := Lib.hid hE
              have hS : Stops wE b l FR := (HS.out.kept HT.out (fun _ _ => id)).kept hE (fun _ _ => id)
              have HS2 := Lib.hid hS
              clear hE hS
              go_wp2_with (first
                | (go_at_call 10; refine (next_any _ b l FR _ _ HS2.out (by rw [HLN.out]; omega) (by omega) (by omega) (by omega) (by omega)).mono ?_; rintro e w2 ⟨rfl, rfl⟩)
                | (go_at_call 11; refine (prev_any _ b l FR _ _ HS2.out (by rw [HLN.out]; omega) (by omega) (by omega) (by omega) (by omega)).mono ?_; rintro e w2 ⟨rfl, rfl⟩))
              go_ret
              exact ⟨rfl, (HC.out.trans HT.out fun _ _ h => h).trans HE.out fun _ _ h => h⟩
    · have hE' : 200 < len1 ∨ a2 < 0 ∨ a0 ≤ a2 ∨ a3 < 1 ∨ 50 < a3 := by omega
      clear hE
      have HW := Lib.hid w1
      clear w1 hr1 hl1 hcn
      go_enter Try.func3, Try.ntmps3
      go_wp2_with fail
      go_at_call 6
      refine (first_any w).mono ?_
      rintro e wA ⟨rfl, hA⟩
      have HA := Lib.hid hA
      clear hA
      go_wp2_with fail
      go_at_call 7
      refine (new_any wA a0 (by omega) (by omega)).mono ?_
      rintro e wB ⟨b, F, rfl, hs, hB, hF⟩
      have HB := Lib.hid hB
      clear hB hs hF
      go_wp2_with fail
      all_goals
        go_at_call 6
        refine (first_any wB).mono ?_
        rintro e wC ⟨rfl, hC⟩
        have HC := Lib.hid hC
        clear hC
        go_wp2_with fail
        go_ret
        exact ⟨rfl, (HA.out.trans HB.out fun _ _ h => h).trans HC.out fun _ _ h => h⟩
  · go_enter Try.func3, Try.ntmps3
    go_wp2_with fail
    go_at_call 6
    refine (first_any w).mono ?_
    rintro e wA ⟨rfl, hA⟩
    have HA := Lib.hid hA
    clear hA
    go_wp2_with fail
    go_at_call 7
    refine (new_not wA a0 (by omega)).mono ?_
    rintro e wB ⟨rfl, hB⟩
    have HB := Lib.hid hB
    clear hB
    go_wp2_with fail
    go_at_call 6
    refine (first_any wB).mono ?_
    rintro e wC ⟨rfl, hC⟩
    have HC := Lib.hid hC
    clear hC
    go_wp2_with fail
    go_ret
    exact ⟨rfl, (HA.out.trans HB.out fun _ _ h => h).trans HC.out fun _ _ h => h⟩
end Go.Proofs.Ytadpjgjkicmhiaa
