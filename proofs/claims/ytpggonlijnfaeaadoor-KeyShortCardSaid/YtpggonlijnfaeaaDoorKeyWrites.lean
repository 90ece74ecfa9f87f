/-
  Chapter 13: KeyWrites.
-/
import Derived.Test.YtpggonlijnfaeaaDoorKey1
namespace Go.Proofs.YtpggonlijnfaeaaDoor
open Go.RowKit
set_option linter.unusedVariables false
set_option linter.unusedSimpArgs false

theorem varsL_byte (l : List Nat) : ∀ x ∈ varsL l, 0 ≤ x ∧ x ≤ 255 := by
  intro x hx
  obtain ⟨n, _, h⟩ := List.mem_flatMap.1 hx
  exact varL_byte n x h
theorem runsL_byte : ∀ (m : Nat) (l : List Ce), l.length ≤ m → ∀ x ∈ runsL l, 0 ≤ x ∧ x ≤ 255
  | _, [], _ => by simp [runsL]
  | m + 1, c :: t, h => by
    intro x hx
    rw [runsL] at hx
    rcases List.mem_append.1 hx with hx | hx
    · exact varsL_byte _ x hx
    · exact runsL_byte m _ (by simp at h ⊢; omega) x hx
theorem keyL_byte (r c : Int) (l : List Ce) (y x : Int) (h : Bool) (t : ByteArray) : ∀ z ∈ keyL r c l y x h t, 0 ≤ z ∧ z ≤ 255 := by
  intro z hz
  rcases List.mem_append.1 hz with hz | hz
  · rcases List.mem_append.1 hz with hz | hz
    · exact varsL_byte _ z hz
    · exact numsS_byte t z hz
  · exact runsL_byte _ l (Nat.le_refl _) z hz
set_option maxRecDepth 100000 in
set_option maxHeartbeats 8000000 in
theorem KeyWrites_any (w : World) (r c y x : Int) (h : Bool) (t : ByteArray) (va : Value) (l : List Ce) (ha : Rd w 5 va l.length (cellsV l)) (ht : Tab w) :
    Calls Tryd.prog 3 #[scV r c va y x h t] w fun e w' => e = .returned (.bool true) ∧ Chg w w' nob := by
  obtain ⟨a1, c1, rfl, hn1, _⟩ := ha.form
  have HA := Lib.hid ha
  have HT := Lib.hid ht
  clear ha ht
  go_enter Tryd.func3, Tryd.ntmps3
  obtain ⟨w0, hw0⟩ : ∃ w0, w.alloc (.cells #[.int .i64 r, .int .i64 c, .slice a1 l.length c1, .int .i64 y, .int .i64 x, .bool h, .string t] 24) = w0 := ⟨_, rfl⟩
  have HB0 : Hid (Blk w0 w.heap.size 24 #[.int .i64 r, .int .i64 c, .slice a1 l.length c1, .int .i64 y, .int .i64 x, .bool h, .string t]) := Lib.hid (by rw [← hw0]; exact Blk.new w _ _)
  have HC0 : Hid (Chg w w0 nob) := Lib.hid (by rw [← hw0]; exact (Chg.refl w nob).alloc _)
  go_wp2_with fail
  go_at_call 5
  clear hw0
  refine (kfirst_any _ (HT.out.kept HC0.out)).mono ?_
  rintro e w1 ⟨rfl, hc1⟩
  have HB1 := Lib.hid (HB0.out.kept hc1 id)
  have HC1 : Hid (Chg w w1 nob) := Lib.hid (HC0.out.trans hc1 (fun _ _ h => h))
  clear hc1
  have hb := HB1.out
  have u0 := hb.cell 0
  have u1 := hb.cell 1
  have u2 := hb.cell 2
  have u3 := hb.cell 3
  have u4 := hb.cell 4
  have u5 := hb.cell 5
  have u6 := hb.cell 6
  simp only [List.getElem?_toArray, List.getElem?_cons_zero, List.getElem?_cons_succ] at u0 u1 u2 u3 u4 u5 u6
  clear hb
  go_wp2_with fail
  go_at_call 6
  refine (few_any _ r c y x h t _ l.length ⟨_, _, rfl⟩).mono ?_
  obtain ⟨b, hb⟩ : ∃ b, (decide (l.length ≤ 3000) && decide (t.size ≤ 3000)) = b := ⟨_, rfl⟩
  rw [hb]
  have HBB := Lib.hid hb
  clear hb
  rintro e w2 ⟨rfl, hc2⟩
  clear u0 u1 u2 u3 u4 u5 u6
  have HB2 := Lib.hid (HB1.out.kept hc2 id)
  have HC2 : Hid (Chg w w2 nob) := Lib.hid (HC1.out.trans hc2 (fun _ _ h => h))
  clear hc2
  cases b
  · go_wp2_with fail
    go_at_call 5
    refine (kfirst_any _ (HT.out.kept HC2.out)).mono ?_
    rintro e w3 ⟨rfl, hc3⟩
    have HC3 : Hid (Chg w w3 nob) := Lib.hid (HC2.out.trans hc3 (fun _ _ h => h))
    clear hc3
    go_wp2
    go_ret
    exact ⟨rfl, HC3.out⟩
  · have hbb := HBB.out
    simp only [Bool.and_eq_true, decide_eq_true_eq] at hbb
    obtain ⟨hl, hs⟩ := hbb
    have hrd : ∀ w', Chg w w' nob → Rd w' 5 (.slice a1 l.length c1) l.length (cellsV l) := fun w' hc => HA.out.kept hc (fun _ _ => id)
    have HRD := Lib.hid hrd
    clear hrd
    have hb := HB2.out
    have u0 := hb.cell 0
    have u1 := hb.cell 1
    have u2 := hb.cell 2
    have u3 := hb.cell 3
    have u4 := hb.cell 4
    have u5 := hb.cell 5
    have u6 := hb.cell 6
    simp only [List.getElem?_toArray, List.getElem?_cons_zero, List.getElem?_cons_succ] at u0 u1 u2 u3 u4 u5 u6
    clear hb
    go_wp2_with fail
    go_at_call 7
    obtain ⟨m, hm⟩ : ∃ m, mayS r c l y x t = m := ⟨_, rfl⟩
    obtain ⟨L, hL⟩ : ∃ L, (if m = true then keyL r c l y x h t else []) = L := ⟨_, rfl⟩
    have HBY : Hid (∀ z ∈ L, 0 ≤ z ∧ z ≤ 255) := Lib.hid (by
      rw [← hL]
      split
      · exact keyL_byte _ _ _ _ _ _ _
      · intro z hz; cases hz)
    have h1 := kenc_any w2 r c y x h t _ l (HRD.out w2 HC2.out) (by omega) (by omega) (HT.out.kept HC2.out)
    have h2 := fun w' hc => renc_any w' r c y x h t _ l (HRD.out w' hc) (by omega) (by omega) (HT.out.kept hc)
    rw [hm] at h1
    simp only [hm] at h2
    rw [hL] at h1
    simp only [hL] at h2
    have H2 := Lib.hid h2
    clear h2 hm hL
    refine h1.mono ?_
    clear h1
    rintro e w3 ⟨v3, rfl, hb3⟩
    have hc3 := hb3.2.1
    have HV3 := Lib.hid hb3.1
    clear hb3
    clear u0 u1 u2 u3 u4 u5 u6
    have HB3 := Lib.hid (HB2.out.kept hc3 id)
    have HC3 : Hid (Chg w w3 nob) := Lib.hid (HC2.out.trans hc3 (fun _ _ h => h))
    clear hc3
    obtain ⟨a3, c3, rfl, _⟩ := HV3.out.form
    have hb := HB3.out
    have u0 := hb.cell 0
    have u1 := hb.cell 1
    have u2 := hb.cell 2
    have u3 := hb.cell 3
    have u4 := hb.cell 4
    have u5 := hb.cell 5
    have u6 := hb.cell 6
    simp only [List.getElem?_toArray, List.getElem?_cons_zero, List.getElem?_cons_succ] at u0 u1 u2 u3 u4 u5 u6
    clear hb
    go_wp2_with fail
    go_at_call 8
    refine (H2.out w3 HC3.out).mono ?_
    rintro e w4 ⟨v4, rfl, hb4⟩
    have hc4 := hb4.2.1
    have HV4 := Lib.hid hb4.1
    have HV34 := Lib.hid (HV3.out.kept hc4 (fun _ _ => id))
    clear hb4
    clear u0 u1 u2 u3 u4 u5 u6
    have HB4 := Lib.hid (HB3.out.kept hc4 id)
    have HC4 : Hid (Chg w w4 nob) := Lib.hid (HC3.out.trans hc4 (fun _ _ h => h))
    clear hc4
    obtain ⟨a4, c4, rfl, _⟩ := HV4.out.form
    go_wp2_with fail
    refine wp_one [13, 16] [0, 4, 14, 17, 18] [(14, [16])] [0, 1, 2, 3, 4, 5, 6, 7, 8, 9, 10, 11, 12, 13, 15, 16, 14, 17, 18, 19, 20] rfl (by kernel_rfl) (fun _ _ _ _ _ h => h) ?_; simp only [List.map_cons, List.map_nil, List.getElem?_toArray, List.getElem?_cons_zero, List.getElem?_cons_succ]
    (repeat (first | (apply can0; (· rfl); (· rfl); (· (intro w'; first | (go_simp; with_reducible rfl) | (go_simp; done))); simp only [Act.put, List.setIfInBounds_toArray, List.set_cons_zero, List.set_cons_succ]) | (apply can1; (· rfl); (· rfl); (· (first | (go_simp; with_reducible rfl) | (go_simp; done))); simp only [Act.put, List.setIfInBounds_toArray, List.set_cons_zero, List.set_cons_succ]) | (apply canN; (· rfl); (· rfl); simp only [Act.put, List.setIfInBounds_toArray, List.set_cons_zero, List.set_cons_succ]) | (apply canN1; (· rfl); (· rfl); simp only [Act.put, List.setIfInBounds_toArray, List.set_cons_zero, List.set_cons_succ]) | (apply can0; (· rfl); (· (go_simp; done)); (· (intro w'; first | (go_simp; with_reducible rfl) | (go_simp; done))); simp only [Act.put, List.setIfInBounds_toArray, List.set_cons_zero, List.set_cons_succ]) | (apply can1; (· rfl); (· (go_simp; done)); (· (first | (go_simp; with_reducible rfl) | (go_simp; done))); simp only [Act.put, List.setIfInBounds_toArray, List.set_cons_zero, List.set_cons_succ]) | (apply canN; (· rfl); (· (go_simp; done)); simp only [Act.put, List.setIfInBounds_toArray, List.set_cons_zero, List.set_cons_succ]) | (apply canN1; (· rfl); (· (go_simp; done)); simp only [Act.put, List.setIfInBounds_toArray, List.set_cons_zero, List.set_cons_succ])))
    refine canW rfl [] rfl (fun K hK => ?_)
    go_simp
    go_at_call 5
    refine (kfirst_any _ (HT.out.kept HC4.out.drew)).mono ?_
    rintro e w5 ⟨rfl, hc5'⟩
    have hc5 : Chg w4 w5 nob := (Chg.refl w4 nob).drew.trans hc5' (fun _ _ h => h)
    have HB5 := Lib.hid (HB4.out.kept hc5 id)
    have HC5 : Hid (Chg w w5 nob) := Lib.hid (HC4.out.trans hc5 (fun _ _ h => h))
    have HV5 := Lib.hid (And.intro (HV34.out.kept hc5 (fun _ _ => id)) (HV4.out.kept hc5 (fun _ _ => id)))
    clear hc5 hc5'
    (refine hK _ _ (fun u hu => by cases hu) ?_; clear hK K; try simp only [Act.put, List.setIfInBounds_toArray, List.set_cons_zero, List.set_cons_succ])
    (repeat (first | (apply can0; (· rfl); (· rfl); (· (intro w'; first | (go_simp; with_reducible rfl) | (go_simp; done))); simp only [Act.put, List.setIfInBounds_toArray, List.set_cons_zero, List.set_cons_succ]) | (apply can1; (· rfl); (· rfl); (· (first | (go_simp; with_reducible rfl) | (go_simp; done))); simp only [Act.put, List.setIfInBounds_toArray, List.set_cons_zero, List.set_cons_succ]) | (apply canN; (· rfl); (· rfl); simp only [Act.put, List.setIfInBounds_toArray, List.set_cons_zero, List.set_cons_succ]) | (apply canN1; (· rfl); (· rfl); simp only [Act.put, List.setIfInBounds_toArray, List.set_cons_zero, List.set_cons_succ]) | (apply can0; (· rfl); (· (go_simp; done)); (· (intro w'; first | (go_simp; with_reducible rfl) | (go_simp; done))); simp only [Act.put, List.setIfInBounds_toArray, List.set_cons_zero, List.set_cons_succ]) | (apply can1; (· rfl); (· (go_simp; done)); (· (first | (go_simp; with_reducible rfl) | (go_simp; done))); simp only [Act.put, List.setIfInBounds_toArray, List.set_cons_zero, List.set_cons_succ]) | (apply canN; (· rfl); (· (go_simp; done)); simp only [Act.put, List.setIfInBounds_toArray, List.set_cons_zero, List.set_cons_succ]) | (apply canN1; (· rfl); (· (go_simp; done)); simp only [Act.put, List.setIfInBounds_toArray, List.set_cons_zero, List.set_cons_succ])))
    refine canW rfl [] rfl (fun K hK => ?_)
    go_simp
    go_at_call 9
    refine (bytes_eq _ _ _ L L HV5.out.1.rd HV5.out.2.rd HBY.out HBY.out).mono ?_
    rintro e w6 ⟨rfl, rfl⟩
    rw [decide_eq_true (rfl : L = L)]
    have hb := HB5.out
    have u0 := hb.cell 0
    have u1 := hb.cell 1
    have u2 := hb.cell 2
    have u3 := hb.cell 3
    have u4 := hb.cell 4
    have u5 := hb.cell 5
    have u6 := hb.cell 6
    simp only [List.getElem?_toArray, List.getElem?_cons_zero, List.getElem?_cons_succ] at u0 u1 u2 u3 u4 u5 u6
    clear hb
    (refine hK _ _ (fun u hu => by cases hu) ?_; clear hK K; try simp only [Act.put, List.setIfInBounds_toArray, List.set_cons_zero, List.set_cons_succ])
    (repeat (first | (apply can0; (· rfl); (· rfl); (· (intro w'; first | (go_simp; with_reducible rfl) | (go_simp; done))); simp only [Act.put, List.setIfInBounds_toArray, List.set_cons_zero, List.set_cons_succ]) | (apply can1; (· rfl); (· rfl); (· (first | (go_simp; with_reducible rfl) | (go_simp; done))); simp only [Act.put, List.setIfInBounds_toArray, List.set_cons_zero, List.set_cons_succ]) | (apply canN; (· rfl); (· rfl); simp only [Act.put, List.setIfInBounds_toArray, List.set_cons_zero, List.set_cons_succ]) | (apply canN1; (· rfl); (· rfl); simp only [Act.put, List.setIfInBounds_toArray, List.set_cons_zero, List.set_cons_succ]) | (apply can0; (· rfl); (· (go_simp; done)); (· (intro w'; first | (go_simp; with_reducible rfl) | (go_simp; done))); simp only [Act.put, List.setIfInBounds_toArray, List.set_cons_zero, List.set_cons_succ]) | (apply can1; (· rfl); (· (go_simp; done)); (· (first | (go_simp; with_reducible rfl) | (go_simp; done))); simp only [Act.put, List.setIfInBounds_toArray, List.set_cons_zero, List.set_cons_succ]) | (apply canN; (· rfl); (· (go_simp; done)); simp only [Act.put, List.setIfInBounds_toArray, List.set_cons_zero, List.set_cons_succ]) | (apply canN1; (· rfl); (· (go_simp; done)); simp only [Act.put, List.setIfInBounds_toArray, List.set_cons_zero, List.set_cons_succ])))
    refine canW rfl [16] rfl (fun K hK => ?_)
    go_simp
    go_at_call 10
    refine (kcells_any w6 _ l (HRD.out w6 HC5.out) (by omega)).mono ?_
    rintro e w7 ⟨v7, rfl, hb7⟩
    have hc7 := hb7.2.1
    have HV7 := Lib.hid hb7.1
    clear hb7
    clear u0 u1 u2 u3 u4 u5 u6
    have HB7 := Lib.hid (HB5.out.kept hc7 id)
    have HC7 : Hid (Chg w w7 nob) := Lib.hid (HC5.out.trans hc7 (fun _ _ h => h))
    clear hc7
    obtain ⟨a7, c7, rfl, _⟩ := HV7.out.form
    have hb := HB7.out
    have u0 := hb.cell 0
    have u1 := hb.cell 1
    have u2 := hb.cell 2
    have u3 := hb.cell 3
    have u4 := hb.cell 4
    have u5 := hb.cell 5
    have u6 := hb.cell 6
    simp only [List.getElem?_toArray, List.getElem?_cons_zero, List.getElem?_cons_succ] at u0 u1 u2 u3 u4 u5 u6
    clear hb
    (refine hK _ _ (fun u hu => by simp only [List.mem_cons, List.not_mem_nil, or_false] at hu; (first | (subst hu; exact reRun_mk rfl (by first | (go_simp; with_reducible rfl) | (go_simp; done)) (holds_at rfl)) | (rcases hu with rfl | rfl <;> exact reRun_mk rfl (by first | (go_simp; with_reducible rfl) | (go_simp; done)) (holds_at rfl)) | (rcases hu with rfl | rfl | rfl <;> exact reRun_mk rfl (by first | (go_simp; with_reducible rfl) | (go_simp; done)) (holds_at rfl)) | (rcases hu with rfl | rfl | rfl | rfl <;> exact reRun_mk rfl (by first | (go_simp; with_reducible rfl) | (go_simp; done)) (holds_at rfl)) | (rcases hu with rfl | rfl | rfl | rfl | rfl <;> exact reRun_mk rfl (by first | (go_simp; with_reducible rfl) | (go_simp; done)) (holds_at rfl)) | (rcases hu with rfl | rfl | rfl | rfl | rfl | rfl <;> exact reRun_mk rfl (by first | (go_simp; with_reducible rfl) | (go_simp; done)) (holds_at rfl)))) ?_; clear hK K; try simp only [Act.put, List.setIfInBounds_toArray, List.set_cons_zero, List.set_cons_succ])
    clear u0 u1 u2 u3 u4 u5 u6
    (repeat (first | (apply can0; (· rfl); (· rfl); (· (intro w'; first | (go_simp; with_reducible rfl) | (go_simp; done))); simp only [Act.put, List.setIfInBounds_toArray, List.set_cons_zero, List.set_cons_succ]) | (apply can1; (· rfl); (· rfl); (· (first | (go_simp; with_reducible rfl) | (go_simp; done))); simp only [Act.put, List.setIfInBounds_toArray, List.set_cons_zero, List.set_cons_succ]) | (apply canN; (· rfl); (· rfl); simp only [Act.put, List.setIfInBounds_toArray, List.set_cons_zero, List.set_cons_succ]) | (apply canN1; (· rfl); (· rfl); simp only [Act.put, List.setIfInBounds_toArray, List.set_cons_zero, List.set_cons_succ]) | (apply can0; (· rfl); (· (go_simp; done)); (· (intro w'; first | (go_simp; with_reducible rfl) | (go_simp; done))); simp only [Act.put, List.setIfInBounds_toArray, List.set_cons_zero, List.set_cons_succ]) | (apply can1; (· rfl); (· (go_simp; done)); (· (first | (go_simp; with_reducible rfl) | (go_simp; done))); simp only [Act.put, List.setIfInBounds_toArray, List.set_cons_zero, List.set_cons_succ]) | (apply canN; (· rfl); (· (go_simp; done)); simp only [Act.put, List.setIfInBounds_toArray, List.set_cons_zero, List.set_cons_succ]) | (apply canN1; (· rfl); (· (go_simp; done)); simp only [Act.put, List.setIfInBounds_toArray, List.set_cons_zero, List.set_cons_succ])))
    refine canW rfl [] rfl (fun K hK => ?_)
    go_simp
    go_at_call 11
    refine (rcells_any w7 _ l (HRD.out w7 HC7.out) (by omega)).mono ?_
    rintro e w8 ⟨v8, rfl, hb8⟩
    have hc8 := hb8.2.1
    have HV8 := Lib.hid hb8.1
    have HV78 := Lib.hid (HV7.out.kept hc8 (fun _ _ => id))
    have HC8 : Hid (Chg w w8 nob) := Lib.hid (HC7.out.trans hc8 (fun _ _ h => h))
    clear hb8 hc8
    obtain ⟨a8, c8, rfl, _⟩ := HV8.out.form
    (refine hK _ _ (fun u hu => by cases hu) ?_; clear hK K; try simp only [Act.put, List.setIfInBounds_toArray, List.set_cons_zero, List.set_cons_succ])
    (repeat (first | (apply can0; (· rfl); (· rfl); (· (intro w'; first | (go_simp; with_reducible rfl) | (go_simp; done))); simp only [Act.put, List.setIfInBounds_toArray, List.set_cons_zero, List.set_cons_succ]) | (apply can1; (· rfl); (· rfl); (· (first | (go_simp; with_reducible rfl) | (go_simp; done))); simp only [Act.put, List.setIfInBounds_toArray, List.set_cons_zero, List.set_cons_succ]) | (apply canN; (· rfl); (· rfl); simp only [Act.put, List.setIfInBounds_toArray, List.set_cons_zero, List.set_cons_succ]) | (apply canN1; (· rfl); (· rfl); simp only [Act.put, List.setIfInBounds_toArray, List.set_cons_zero, List.set_cons_succ]) | (apply can0; (· rfl); (· (go_simp; done)); (· (intro w'; first | (go_simp; with_reducible rfl) | (go_simp; done))); simp only [Act.put, List.setIfInBounds_toArray, List.set_cons_zero, List.set_cons_succ]) | (apply can1; (· rfl); (· (go_simp; done)); (· (first | (go_simp; with_reducible rfl) | (go_simp; done))); simp only [Act.put, List.setIfInBounds_toArray, List.set_cons_zero, List.set_cons_succ]) | (apply canN; (· rfl); (· (go_simp; done)); simp only [Act.put, List.setIfInBounds_toArray, List.set_cons_zero, List.set_cons_succ]) | (apply canN1; (· rfl); (· (go_simp; done)); simp only [Act.put, List.setIfInBounds_toArray, List.set_cons_zero, List.set_cons_succ])))
    refine canW rfl [] rfl (fun K hK => ?_)
    go_simp
    go_at_call 9
    refine (bytes_eq _ _ _ (runsL l) (runsL l) HV78.out.rd HV8.out.rd (runsL_byte _ l (Nat.le_refl _)) (runsL_byte _ l (Nat.le_refl _))).mono ?_
    rintro e w9 ⟨rfl, rfl⟩
    rw [decide_eq_true (rfl : runsL l = runsL l)]
    (refine hK _ _ (fun u hu => by cases hu) ?_; clear hK K; try simp only [Act.put, List.setIfInBounds_toArray, List.set_cons_zero, List.set_cons_succ])
    (repeat (first | (apply can0; (· rfl); (· rfl); (· (intro w'; first | (go_simp; with_reducible rfl) | (go_simp; done))); simp only [Act.put, List.setIfInBounds_toArray, List.set_cons_zero, List.set_cons_succ]) | (apply can1; (· rfl); (· rfl); (· (first | (go_simp; with_reducible rfl) | (go_simp; done))); simp only [Act.put, List.setIfInBounds_toArray, List.set_cons_zero, List.set_cons_succ]) | (apply canN; (· rfl); (· rfl); simp only [Act.put, List.setIfInBounds_toArray, List.set_cons_zero, List.set_cons_succ]) | (apply canN1; (· rfl); (· rfl); simp only [Act.put, List.setIfInBounds_toArray, List.set_cons_zero, List.set_cons_succ]) | (apply can0; (· rfl); (· (go_simp; done)); (· (intro w'; first | (go_simp; with_reducible rfl) | (go_simp; done))); simp only [Act.put, List.setIfInBounds_toArray, List.set_cons_zero, List.set_cons_succ]) | (apply can1; (· rfl); (· (go_simp; done)); (· (first | (go_simp; with_reducible rfl) | (go_simp; done))); simp only [Act.put, List.setIfInBounds_toArray, List.set_cons_zero, List.set_cons_succ]) | (apply canN; (· rfl); (· (go_simp; done)); simp only [Act.put, List.setIfInBounds_toArray, List.set_cons_zero, List.set_cons_succ]) | (apply canN1; (· rfl); (· (go_simp; done)); simp only [Act.put, List.setIfInBounds_toArray, List.set_cons_zero, List.set_cons_succ])))
    refine canE ?_
    go_wp2
    go_ret
    exact ⟨rfl, HC8.out⟩
theorem KeyWrites_walk (w : World) (r0 c0 y0 x0 : Int) (h0 : Bool) (t0 : ByteArray) (va0 : Value) (l0 : List Ce) (hr0 : Rd w 5 va0 l0.length (cellsV l0)) (nk0 : NilOk va0) (wf0 : ∀ c ∈ l0, Ce.wf c)
    (w0 : (-9223372036854775808 ≤ r0 ∧ r0 ≤ 9223372036854775807) ∧ (-9223372036854775808 ≤ c0 ∧ c0 ≤ 9223372036854775807) ∧ (-9223372036854775808 ≤ y0 ∧ y0 ≤ 9223372036854775807) ∧ -9223372036854775808 ≤ x0 ∧ x0 ≤ 9223372036854775807) (ht : Tab w) :
    Calls Tryd.prog 3 #[scV r0 c0 va0 y0 x0 h0 t0] w fun e w' => e = .returned (.bool true) ∧ Chg w w' nob := KeyWrites_any w r0 c0 y0 x0 h0 t0 va0 l0 hr0 ht
end Go.Proofs.YtpggonlijnfaeaaDoor
