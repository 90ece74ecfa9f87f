/-
  DiffSmall: of one cell that is another one the text is short; of another size it is the whole screen.
-/
import Derived.Test.YtiojhfaeeelfeaaDoorMg34
namespace Go.Proofs.YtiojhfaeeelfeaaDoor
open Go.RowKit
set_option linter.unusedVariables false
set_option linter.unusedSimpArgs false

attribute [local go_sem ↓] run_cut_l
set_option maxRecDepth 100000 in
set_option maxHeartbeats 4000000 in
theorem DiffSmall_sc (w : World) (a b : Sc) (va vb : Value) (ha : Rd w 5 va a.l.length (cellsV a.l)) (hb : Rd w 5 vb b.l.length (cellsV b.l)) (p : Int) (hp : -9223372036854775808 ≤ p ∧ p ≤ 9223372036854775807) (ht : Tab w) :
    Calls Tryd.prog 6 #[scS a va, scS b vb, .int .i64 p] w fun e w' => e = .returned (.bool true) ∧ Chg w w' nob := by
  have HT := Lib.hid ht
  obtain ⟨aa, na, rfl, _⟩ := ha.form
  obtain ⟨ab, nb, rfl, _⟩ := hb.form
  have HA := Lib.hid ha
  have HB := Lib.hid hb
  clear ha hb ht
  obtain ⟨f1, hf1⟩ : ∃ x, (decide (a.l.length ≤ 3000) && decide (a.t.size ≤ 3000)) = x := ⟨_, rfl⟩
  obtain ⟨f2, hf2⟩ : ∃ x, (decide (b.l.length ≤ 3000) && decide (b.t.size ≤ 3000)) = x := ⟨_, rfl⟩
  have HF1 := Lib.hid hf1
  have HF2 := Lib.hid hf2
  obtain ⟨m1, hm1⟩ : ∃ x, a.may = x := ⟨_, rfl⟩
  obtain ⟨m2, hm2⟩ : ∃ x, b.may = x := ⟨_, rfl⟩
  have HM1 := Lib.hid hm1
  have HM2 := Lib.hid hm2
  clear hm1 hm2 hf1 hf2
  go_enter Tryd.func6, Tryd.ntmps6
  go_upto_region 1 with (fail)
  obtain ⟨w1, hw⟩ : ∃ W, (w.alloc (.cells (scL a (.slice aa a.l.length na)) 26)).alloc (.cells (scL b (.slice ab b.l.length nb)) 26) = W := ⟨_, rfl⟩
  have HX : Hid (Box2 w w1 w.heap.size (w.heap.size + 1) (scL a (.slice aa a.l.length na)) (scL b (.slice ab b.l.length nb))) := Lib.hid (by rw [← hw]; exact ⟨((Chg.refl w nob).alloc _).alloc _, (Blk.new w _ _).alloc _, Blk.new2' w _ _ _⟩)
  rw [hw]
  clear hw
  obtain ⟨ia, hia⟩ : ∃ i, w.heap.size = i := ⟨_, rfl⟩
  rw [hia] at HX ⊢
  have HIA := Lib.hid hia
  clear hia
  obtain ⟨ib, hib⟩ : ∃ i, ia + 1 = i := ⟨_, rfl⟩
  rw [hib] at HX ⊢
  clear hib
  have ca0 := HX.out.a.cell 0
  have ca1 := HX.out.a.cell 1
  have ca2 := HX.out.a.cell 2
  have ca3 := HX.out.a.cell 3
  have ca4 := HX.out.a.cell 4
  have ca5 := HX.out.a.cell 5
  have ca6 := HX.out.a.cell 6
  simp only [List.getElem?_toArray, List.getElem?_cons_zero, List.getElem?_cons_succ] at ca0 ca1 ca2 ca3 ca4 ca5 ca6
  have cb0 := HX.out.b.cell 0
  have cb1 := HX.out.b.cell 1
  have cb2 := HX.out.b.cell 2
  have cb3 := HX.out.b.cell 3
  have cb4 := HX.out.b.cell 4
  have cb5 := HX.out.b.cell 5
  have cb6 := HX.out.b.cell 6
  simp only [List.getElem?_toArray, List.getElem?_cons_zero, List.getElem?_cons_succ] at cb0 cb1 cb2 cb3 cb4 cb5 cb6
  go_wp2_with fail
  go_at_call 23
  refine (dfirst_any w1 (HT.out.kept HX.out.chg)).mono ?_
  rintro e w2 ⟨rfl, hck⟩
  replace HX := Lib.hid (HX.out.kept hck)
  clear hck
  clear ca0 ca1 ca2 ca3 ca4 ca5 ca6 cb0 cb1 cb2 cb3 cb4 cb5 cb6
  have ca0 := HX.out.a.cell 0
  have ca1 := HX.out.a.cell 1
  have ca2 := HX.out.a.cell 2
  have ca3 := HX.out.a.cell 3
  have ca4 := HX.out.a.cell 4
  have ca5 := HX.out.a.cell 5
  have ca6 := HX.out.a.cell 6
  simp only [List.getElem?_toArray, List.getElem?_cons_zero, List.getElem?_cons_succ] at ca0 ca1 ca2 ca3 ca4 ca5 ca6
  have cb0 := HX.out.b.cell 0
  have cb1 := HX.out.b.cell 1
  have cb2 := HX.out.b.cell 2
  have cb3 := HX.out.b.cell 3
  have cb4 := HX.out.b.cell 4
  have cb5 := HX.out.b.cell 5
  have cb6 := HX.out.b.cell 6
  simp only [List.getElem?_toArray, List.getElem?_cons_zero, List.getElem?_cons_succ] at cb0 cb1 cb2 cb3 cb4 cb5 cb6
  go_wp2_with fail
  go_at_call 18
  refine (few_any w2 a.r a.c a.y a.x a.h a.t _ a.l.length ⟨_, _, rfl⟩).mono ?_
  rw [HF1.out]
  rintro e w3 ⟨rfl, hck⟩
  replace HX := Lib.hid (HX.out.kept hck)
  clear hck
  clear ca0 ca1 ca2 ca3 ca4 ca5 ca6 cb0 cb1 cb2 cb3 cb4 cb5 cb6
  have ca0 := HX.out.a.cell 0
  have ca1 := HX.out.a.cell 1
  have ca2 := HX.out.a.cell 2
  have ca3 := HX.out.a.cell 3
  have ca4 := HX.out.a.cell 4
  have ca5 := HX.out.a.cell 5
  have ca6 := HX.out.a.cell 6
  simp only [List.getElem?_toArray, List.getElem?_cons_zero, List.getElem?_cons_succ] at ca0 ca1 ca2 ca3 ca4 ca5 ca6
  have cb0 := HX.out.b.cell 0
  have cb1 := HX.out.b.cell 1
  have cb2 := HX.out.b.cell 2
  have cb3 := HX.out.b.cell 3
  have cb4 := HX.out.b.cell 4
  have cb5 := HX.out.b.cell 5
  have cb6 := HX.out.b.cell 6
  simp only [List.getElem?_toArray, List.getElem?_cons_zero, List.getElem?_cons_succ] at cb0 cb1 cb2 cb3 cb4 cb5 cb6
  cases f1 with
  | false =>
    go_wp2_with fail
    go_at_call 23
    refine (dfirst_any w3 (HT.out.kept HX.out.chg)).mono ?_
    rintro e x_ ⟨rfl, hck⟩
    replace HX := Lib.hid (HX.out.kept hck)
    clear hck
    go_wp2
    go_ret
    exact ⟨rfl, HX.out.chg⟩
  | true =>
    go_wp2_with fail
    go_at_call 18
    refine (few_any w3 b.r b.c b.y b.x b.h b.t _ b.l.length ⟨_, _, rfl⟩).mono ?_
    rw [HF2.out]
    rintro e w4 ⟨rfl, hck⟩
    replace HX := Lib.hid (HX.out.kept hck)
    clear hck
    clear ca0 ca1 ca2 ca3 ca4 ca5 ca6 cb0 cb1 cb2 cb3 cb4 cb5 cb6
    have ca0 := HX.out.a.cell 0
    have ca1 := HX.out.a.cell 1
    have ca2 := HX.out.a.cell 2
    have ca3 := HX.out.a.cell 3
    have ca4 := HX.out.a.cell 4
    have ca5 := HX.out.a.cell 5
    have ca6 := HX.out.a.cell 6
    simp only [List.getElem?_toArray, List.getElem?_cons_zero, List.getElem?_cons_succ] at ca0 ca1 ca2 ca3 ca4 ca5 ca6
    have cb0 := HX.out.b.cell 0
    have cb1 := HX.out.b.cell 1
    have cb2 := HX.out.b.cell 2
    have cb3 := HX.out.b.cell 3
    have cb4 := HX.out.b.cell 4
    have cb5 := HX.out.b.cell 5
    have cb6 := HX.out.b.cell 6
    simp only [List.getElem?_toArray, List.getElem?_cons_zero, List.getElem?_cons_succ] at cb0 cb1 cb2 cb3 cb4 cb5 cb6
    cases f2 with
    | false =>
      go_wp2_with fail
      go_at_call 23
      refine (dfirst_any w4 (HT.out.kept HX.out.chg)).mono ?_
      rintro e x_ ⟨rfl, hck⟩
      replace HX := Lib.hid (HX.out.kept hck)
      clear hck
      go_wp2
      go_ret
      exact ⟨rfl, HX.out.chg⟩
    | true =>
      obtain ⟨n1, n2⟩ := Bool.and_eq_true_iff.1 HF1.out
      obtain ⟨n3, n4⟩ := Bool.and_eq_true_iff.1 HF2.out
      simp only [decide_eq_true_eq] at n1 n2 n3 n4
      have HMY := Lib.hid (may_sc w4 a _ (HA.out.kept HX.out.chg (fun _ _ => id)) (by omega) (by omega) (HT.out.kept HX.out.chg))
      rw [HM1.out] at HMY
      go_wp2_with fail
      go_at_call 20
      refine HMY.out.mono ?_
      rintro e w5 ⟨rfl, hck⟩
      clear HMY
      replace HX := Lib.hid (HX.out.kept hck)
      clear hck
      clear ca0 ca1 ca2 ca3 ca4 ca5 ca6 cb0 cb1 cb2 cb3 cb4 cb5 cb6
      have ca0 := HX.out.a.cell 0
      have ca1 := HX.out.a.cell 1
      have ca2 := HX.out.a.cell 2
      have ca3 := HX.out.a.cell 3
      have ca4 := HX.out.a.cell 4
      have ca5 := HX.out.a.cell 5
      have ca6 := HX.out.a.cell 6
      simp only [List.getElem?_toArray, List.getElem?_cons_zero, List.getElem?_cons_succ] at ca0 ca1 ca2 ca3 ca4 ca5 ca6
      have cb0 := HX.out.b.cell 0
      have cb1 := HX.out.b.cell 1
      have cb2 := HX.out.b.cell 2
      have cb3 := HX.out.b.cell 3
      have cb4 := HX.out.b.cell 4
      have cb5 := HX.out.b.cell 5
      have cb6 := HX.out.b.cell 6
      simp only [List.getElem?_toArray, List.getElem?_cons_zero, List.getElem?_cons_succ] at cb0 cb1 cb2 cb3 cb4 cb5 cb6
      cases m1 with
      | false =>
        go_wp2_with fail
        go_at_call 23
        refine (dfirst_any w5 (HT.out.kept HX.out.chg)).mono ?_
        rintro e x_ ⟨rfl, hck⟩
        replace HX := Lib.hid (HX.out.kept hck)
        clear hck
        go_wp2
        go_ret
        exact ⟨rfl, HX.out.chg⟩
      | true =>
        have HMY := Lib.hid (may_sc w5 b _ (HB.out.kept HX.out.chg (fun _ _ => id)) (by omega) (by omega) (HT.out.kept HX.out.chg))
        rw [HM2.out] at HMY
        go_wp2_with fail
        go_at_call 20
        refine HMY.out.mono ?_
        rintro e w6 ⟨rfl, hck⟩
        clear HMY
        replace HX := Lib.hid (HX.out.kept hck)
        clear hck
        clear ca0 ca1 ca2 ca3 ca4 ca5 ca6 cb0 cb1 cb2 cb3 cb4 cb5 cb6
        have ca0 := HX.out.a.cell 0
        have ca1 := HX.out.a.cell 1
        have ca2 := HX.out.a.cell 2
        have ca3 := HX.out.a.cell 3
        have ca4 := HX.out.a.cell 4
        have ca5 := HX.out.a.cell 5
        have ca6 := HX.out.a.cell 6
        simp only [List.getElem?_toArray, List.getElem?_cons_zero, List.getElem?_cons_succ] at ca0 ca1 ca2 ca3 ca4 ca5 ca6
        have cb0 := HX.out.b.cell 0
        have cb1 := HX.out.b.cell 1
        have cb2 := HX.out.b.cell 2
        have cb3 := HX.out.b.cell 3
        have cb4 := HX.out.b.cell 4
        have cb5 := HX.out.b.cell 5
        have cb6 := HX.out.b.cell 6
        simp only [List.getElem?_toArray, List.getElem?_cons_zero, List.getElem?_cons_succ] at cb0 cb1 cb2 cb3 cb4 cb5 cb6
        cases m2 with
        | false =>
          go_wp2_with fail
          go_at_call 23
          refine (dfirst_any w6 (HT.out.kept HX.out.chg)).mono ?_
          rintro e x_ ⟨rfl, hck⟩
          replace HX := Lib.hid (HX.out.kept hck)
          clear hck
          go_wp2
          go_ret
          exact ⟨rfl, HX.out.chg⟩
        | true =>
          by_cases hp0 : p < 0
          · skip
            go_wp2_with fail
            go_at_call 23
            refine (dfirst_any w6 (HT.out.kept HX.out.chg)).mono ?_
            rintro e x_ ⟨rfl, hck⟩
            replace HX := Lib.hid (HX.out.kept hck)
            clear hck
            go_wp2
            go_ret
            exact ⟨rfl, HX.out.chg⟩
          · have hl1 := (Sc.may_len HM1.out).2.2
            obtain ⟨n, hn⟩ : ∃ n, a.l.length = n := ⟨_, rfl⟩
            have HN := Lib.hid hn
            have HSD : Hid (Calls Tryd.prog 26 #[scS a (.slice aa n na)] w6 fun e w' => ∃ a' n', e = .returned (scS a (.slice a' n n')) ∧ Cs w6 w' (.slice a' n n') a.l ∧ Chg w6 w' nob) := Lib.hid (by
              have h := scopy_any w6 a _ (HA.out.kept HX.out.chg (fun _ _ => id)) (by omega)
              rw [hn] at h
              exact h)
            rw [hn] at HX HA n1 hl1 ca2
            go_upto_region 5 with (fail)
            clear hn
            go_wp2_with fail
            go_at_call 26
            refine HSD.out.mono ?_
            rintro e w7 ⟨ac, nc, rfl, hcs, hck⟩
            have HCS := Lib.hid (hcs.newer HX.out.chg)
            clear hcs HSD
            replace HX := Lib.hid (HX.out.kept hck)
            clear hck
            clear ca0 ca1 ca2 ca3 ca4 ca5 ca6 cb0 cb1 cb2 cb3 cb4 cb5 cb6
            have ca0 := HX.out.a.cell 0
            have ca1 := HX.out.a.cell 1
            have ca2 := HX.out.a.cell 2
            have ca3 := HX.out.a.cell 3
            have ca4 := HX.out.a.cell 4
            have ca5 := HX.out.a.cell 5
            have ca6 := HX.out.a.cell 6
            simp only [List.getElem?_toArray, List.getElem?_cons_zero, List.getElem?_cons_succ] at ca0 ca1 ca2 ca3 ca4 ca5 ca6
            have cb0 := HX.out.b.cell 0
            have cb1 := HX.out.b.cell 1
            have cb2 := HX.out.b.cell 2
            have cb3 := HX.out.b.cell 3
            have cb4 := HX.out.b.cell 4
            have cb5 := HX.out.b.cell 5
            have cb6 := HX.out.b.cell 6
            simp only [List.getElem?_toArray, List.getElem?_cons_zero, List.getElem?_cons_succ] at cb0 cb1 cb2 cb3 cb4 cb5 cb6
            go_upto_region 6 with (fail)
            obtain ⟨w8, hw⟩ : ∃ W, w7.alloc (.cells (scL a (.slice ac n nc)) 26) = W := ⟨_, rfl⟩
            have hck : Chg w7 w8 nob := by rw [← hw]; exact (Chg.refl w7 nob).alloc _
            have HZ : Hid (Blk w8 w7.heap.size 26 (scL a (.slice ac n nc))) := Lib.hid (by rw [← hw]; exact Blk.new w7 _ _)
            rw [hw]
            clear hw
            obtain ⟨iz, hiz⟩ : ∃ i, w7.heap.size = i := ⟨_, rfl⟩
            rw [hiz] at HZ ⊢
            clear hiz
            replace HCS := Lib.hid (HCS.out.kept hck)
            replace HX := Lib.hid (HX.out.kept hck)
            clear hck
            clear ca0 ca1 ca2 ca3 ca4 ca5 ca6 cb0 cb1 cb2 cb3 cb4 cb5 cb6
            have ca0 := HX.out.a.cell 0
            have ca1 := HX.out.a.cell 1
            have ca2 := HX.out.a.cell 2
            have ca3 := HX.out.a.cell 3
            have ca4 := HX.out.a.cell 4
            have ca5 := HX.out.a.cell 5
            have ca6 := HX.out.a.cell 6
            simp only [List.getElem?_toArray, List.getElem?_cons_zero, List.getElem?_cons_succ] at ca0 ca1 ca2 ca3 ca4 ca5 ca6
            have cb0 := HX.out.b.cell 0
            have cb1 := HX.out.b.cell 1
            have cb2 := HX.out.b.cell 2
            have cb3 := HX.out.b.cell 3
            have cb4 := HX.out.b.cell 4
            have cb5 := HX.out.b.cell 5
            have cb6 := HX.out.b.cell 6
            simp only [List.getElem?_toArray, List.getElem?_cons_zero, List.getElem?_cons_succ] at cb0 cb1 cb2 cb3 cb4 cb5 cb6
            have cz0 := HZ.out.cell 0
            have cz1 := HZ.out.cell 1
            have cz2 := HZ.out.cell 2
            have cz3 := HZ.out.cell 3
            have cz4 := HZ.out.cell 4
            have cz5 := HZ.out.cell 5
            have cz6 := HZ.out.cell 6
            simp only [List.getElem?_toArray, List.getElem?_cons_zero, List.getElem?_cons_succ] at cz0 cz1 cz2 cz3 cz4 cz5 cz6
            have hn0 : ((n : Int) == 0) = false := by simp; omega
            have hnn : ((n : Int) != (n : Int)) = false := bne_self_eq_false _
            obtain ⟨k, hk⟩ : ∃ k : Nat, p.toNat % n = k := ⟨_, rfl⟩
            have hkl : k < n := by rw [← hk]; exact Nat.mod_lt _ (by omega)
            have hmod : Int.tmod p (n : Int) = (k : Int) := by rw [Int.tmod_eq_emod_of_nonneg (by omega), ← hk, Int.natCast_emod, Int.toNat_of_nonneg (by omega)]
            obtain ⟨c0, hc0⟩ : ∃ c, a.l[k]? = some c := ⟨a.l[k]'(by rw [HN.out]; omega), List.getElem?_eq_getElem _⟩
            have HK := Lib.hid hc0
            have HO : Hid (Own w8 54 5 (.slice ac n nc) n (cellsV a.l)) := Lib.hid (by have h := HCS.out.1; rwa [HN.out] at h)
            clear hk hc0
            go_upto_region 8 with (fail)
            obtain ⟨g, rfl⟩ : ∃ g, ac = some ⟨g, 0, none⟩ := by
              obtain ⟨_, _, e, _, _, h1, h2⟩ := HO.out.form
              cases e
              cases ac with
              | none => have := (h1 rfl).1; omega
              | some x => obtain ⟨g, h⟩ := h2 x rfl; exact ⟨g, by rw [h]⟩
            obtain ⟨f', hf'⟩ : ∃ f, bits .xor .i64 c0.f 4 = f := ⟨_, rfl⟩
            have hcm := (Sc.may_b HM1.out).2.2.2.2.2.1 c0 (List.mem_of_getElem? HK.out)
            obtain ⟨hx1, hx2⟩ := xor4' (f := c0.f) (may_b hcm).2.1
            rw [hf'] at hx1 hx2
            have HF1' := Lib.hid hx1
            have HF2' := Lib.hid hx2
            clear hcm hx1 hx2
            have hkc : (0 : Int) ≤ (k : Int) := by omega
            have hkn : (k : Int) < (n : Int) := by omega
            have hnz : ¬ n = 0 := by omega
            refine wp_one [1, 4, 8, 11, 17] [22] [] [0, 1, 2, 3, 4, 5, 6, 7, 8, 9, 10, 11, 12, 13, 14, 15, 16, 17, 18, 19, 20, 21, 22] rfl (by kernel_rfl) (fun _ _ _ _ _ h => h) ?_; simp only [List.map_cons, List.map_nil, List.getElem?_toArray, List.getElem?_cons_zero, List.getElem?_cons_succ]
            obtain ⟨w9, hwd⟩ : ∃ W, World.drew w8 = W := ⟨_, rfl⟩
            have hck : Chg w8 w9 nob := by rw [← hwd]; exact (Chg.refl w8 nob).drew
            rw [hwd]
            clear hwd cz0 cz1 cz2 cz3 cz4 cz5 cz6
            replace HZ := Lib.hid (HZ.out.kept hck id)
            replace HO := Lib.hid (HO.out.kept hck (fun _ _ => id))
            replace HCS := Lib.hid (HCS.out.kept hck)
            replace HX := Lib.hid (HX.out.kept hck)
            clear hck
            clear ca0 ca1 ca2 ca3 ca4 ca5 ca6 cb0 cb1 cb2 cb3 cb4 cb5 cb6
            have ca0 := HX.out.a.cell 0
            have ca1 := HX.out.a.cell 1
            have ca2 := HX.out.a.cell 2
            have ca3 := HX.out.a.cell 3
            have ca4 := HX.out.a.cell 4
            have ca5 := HX.out.a.cell 5
            have ca6 := HX.out.a.cell 6
            simp only [List.getElem?_toArray, List.getElem?_cons_zero, List.getElem?_cons_succ] at ca0 ca1 ca2 ca3 ca4 ca5 ca6
            have cb0 := HX.out.b.cell 0
            have cb1 := HX.out.b.cell 1
            have cb2 := HX.out.b.cell 2
            have cb3 := HX.out.b.cell 3
            have cb4 := HX.out.b.cell 4
            have cb5 := HX.out.b.cell 5
            have cb6 := HX.out.b.cell 6
            simp only [List.getElem?_toArray, List.getElem?_cons_zero, List.getElem?_cons_succ] at cb0 cb1 cb2 cb3 cb4 cb5 cb6
            have cz0 := HZ.out.cell 0
            have cz1 := HZ.out.cell 1
            have cz2 := HZ.out.cell 2
            have cz3 := HZ.out.cell 3
            have cz4 := HZ.out.cell 4
            have cz5 := HZ.out.cell 5
            have cz6 := HZ.out.cell 6
            simp only [List.getElem?_toArray, List.getElem?_cons_zero, List.getElem?_cons_succ] at cz0 cz1 cz2 cz3 cz4 cz5 cz6
            obtain ⟨g', o', heq, -, t1, -, -, -⟩ := HO.out.rd.cell5 HK.out
            cases heq
            obtain ⟨cur, hbc⟩ := HO.out.row (k := g) rfl
            have fr1 := hbc.free (k * 5 + 1)
            simp only [Nat.zero_add] at t1
            clear hbc
            (repeat (first | (apply can0; (· rfl); (· rfl); (· (intro w'; first | (go_simp; with_reducible rfl) | (go_simp; done))); simp only [Act.put, List.setIfInBounds_toArray, List.set_cons_zero, List.set_cons_succ]) | (apply can1; (· rfl); (· rfl); (· (first | (go_simp; with_reducible rfl) | (go_simp; done))); simp only [Act.put, List.setIfInBounds_toArray, List.set_cons_zero, List.set_cons_succ]) | (apply canN; (· rfl); (· rfl); simp only [Act.put, List.setIfInBounds_toArray, List.set_cons_zero, List.set_cons_succ]) | (apply canN1; (· rfl); (· rfl); simp only [Act.put, List.setIfInBounds_toArray, List.set_cons_zero, List.set_cons_succ]) | (apply can0; (· rfl); (· (go_simp; done)); (· (intro w'; first | (go_simp; with_reducible rfl) | (go_simp; done))); simp only [Act.put, List.setIfInBounds_toArray, List.set_cons_zero, List.set_cons_succ]) | (apply can1; (· rfl); (· (go_simp; done)); (· (first | (go_simp; with_reducible rfl) | (go_simp; done))); simp only [Act.put, List.setIfInBounds_toArray, List.set_cons_zero, List.set_cons_succ]) | (apply canN; (· rfl); (· (go_simp; done)); simp only [Act.put, List.setIfInBounds_toArray, List.set_cons_zero, List.set_cons_succ]) | (apply canN1; (· rfl); (· (go_simp; done)); simp only [Act.put, List.setIfInBounds_toArray, List.set_cons_zero, List.set_cons_succ])))
            refine canW rfl [] rfl (fun K hK => ?_)
            go_simp
            obtain ⟨w10, hw⟩ : ∃ W, w9.setCell ⟨g, k * 5 + 1, none⟩ (.int .i64 f') = W := ⟨_, rfl⟩
            have hck : Chg w9 w10 (fun k => k = g) := by rw [← hw]; exact (Chg.refl w9 (fun k => k = g)).setCell (p := ⟨g, k * 5 + 1, none⟩) (.inl rfl) _
            have HO2 : Hid (Own w10 54 5 (.slice (some ⟨g, 0, none⟩) n nc) n (cellsV (a.l.set k (c0.fl f')))) := Lib.hid (by
              rw [← hw, ← cellsV_setf a.l k c0 f' HK.out]
              exact (HO.out.stored (k * 5 + 1) (.int .i64 f')).1)
            rw [hw]
            clear hw
            have HGN : Hid (∀ i, i < w.heap.size → ¬ i = g) := Lib.hid (fun i hi e => by have := HCS.out.2 g rfl; omega)
            replace HX : Hid (Box2 w w10 ia ib _ _) := Lib.hid ⟨HX.out.chg.trans hck (fun i hi e => HGN.out i hi e), HX.out.a.kept hck (fun e => HO.out.ne HX.out.a (by decide) (by rw [e]; rfl)), HX.out.b.kept hck (fun e => HO.out.ne HX.out.b (by decide) (by rw [e]; rfl))⟩
            replace HZ := Lib.hid (HZ.out.kept hck (fun e => HO.out.ne HZ.out (by decide) (by rw [e]; rfl)))
            clear hck HO HCS HGN t1 fr1 cz0 cz1 cz2 cz3 cz4 cz5 cz6
            clear ca0 ca1 ca2 ca3 ca4 ca5 ca6 cb0 cb1 cb2 cb3 cb4 cb5 cb6
            have ca0 := HX.out.a.cell 0
            have ca1 := HX.out.a.cell 1
            have ca2 := HX.out.a.cell 2
            have ca3 := HX.out.a.cell 3
            have ca4 := HX.out.a.cell 4
            have ca5 := HX.out.a.cell 5
            have ca6 := HX.out.a.cell 6
            simp only [List.getElem?_toArray, List.getElem?_cons_zero, List.getElem?_cons_succ] at ca0 ca1 ca2 ca3 ca4 ca5 ca6
            have cb0 := HX.out.b.cell 0
            have cb1 := HX.out.b.cell 1
            have cb2 := HX.out.b.cell 2
            have cb3 := HX.out.b.cell 3
            have cb4 := HX.out.b.cell 4
            have cb5 := HX.out.b.cell 5
            have cb6 := HX.out.b.cell 6
            simp only [List.getElem?_toArray, List.getElem?_cons_zero, List.getElem?_cons_succ] at cb0 cb1 cb2 cb3 cb4 cb5 cb6
            have cz0 := HZ.out.cell 0
            have cz1 := HZ.out.cell 1
            have cz2 := HZ.out.cell 2
            have cz3 := HZ.out.cell 3
            have cz4 := HZ.out.cell 4
            have cz5 := HZ.out.cell 5
            have cz6 := HZ.out.cell 6
            simp only [List.getElem?_toArray, List.getElem?_cons_zero, List.getElem?_cons_succ] at cz0 cz1 cz2 cz3 cz4 cz5 cz6
            (refine hK _ _ (fun u hu => by cases hu) ?_; clear hK K; try simp only [Act.put, List.setIfInBounds_toArray, List.set_cons_zero, List.set_cons_succ])
            (repeat (first | (apply can0; (· rfl); (· rfl); (· (intro w'; first | (go_simp; with_reducible rfl) | (go_simp; done))); simp only [Act.put, List.setIfInBounds_toArray, List.set_cons_zero, List.set_cons_succ]) | (apply can1; (· rfl); (· rfl); (· (first | (go_simp; with_reducible rfl) | (go_simp; done))); simp only [Act.put, List.setIfInBounds_toArray, List.set_cons_zero, List.set_cons_succ]) | (apply canN; (· rfl); (· rfl); simp only [Act.put, List.setIfInBounds_toArray, List.set_cons_zero, List.set_cons_succ]) | (apply canN1; (· rfl); (· rfl); simp only [Act.put, List.setIfInBounds_toArray, List.set_cons_zero, List.set_cons_succ]) | (apply can0; (· rfl); (· (go_simp; done)); (· (intro w'; first | (go_simp; with_reducible rfl) | (go_simp; done))); simp only [Act.put, List.setIfInBounds_toArray, List.set_cons_zero, List.set_cons_succ]) | (apply can1; (· rfl); (· (go_simp; done)); (· (first | (go_simp; with_reducible rfl) | (go_simp; done))); simp only [Act.put, List.setIfInBounds_toArray, List.set_cons_zero, List.set_cons_succ]) | (apply canN; (· rfl); (· (go_simp; done)); simp only [Act.put, List.setIfInBounds_toArray, List.set_cons_zero, List.set_cons_succ]) | (apply canN1; (· rfl); (· (go_simp; done)); simp only [Act.put, List.setIfInBounds_toArray, List.set_cons_zero, List.set_cons_succ])))
            refine canE ?_
            obtain ⟨D, hD⟩ : ∃ D, diffL a ⟨a.r, a.c, a.l.set k (c0.fl f'), a.y, a.x, a.h, a.t⟩ = D := ⟨_, rfl⟩
            have hDl : D.length ≤ 32 + a.t.size := by rw [← hD]; exact diff_small HM1.out HK.out HF1'.out HF2'.out
            have HMK := Lib.hid (dmake_ok w10 a ⟨a.r, a.c, a.l.set k (c0.fl f'), a.y, a.x, a.h, a.t⟩ (.slice aa n na) (.slice (some ⟨g, 0, none⟩) n nc) (by rw [HN.out]; exact HA.out.kept HX.out.chg (fun _ _ => id)) (by
              (show Rd w10 5 (.slice (some ⟨g, 0, none⟩) n nc) (a.l.set k (c0.fl f')).length (cellsV (a.l.set k (c0.fl f'))))
              rw [List.length_set, HN.out]
              exact HO2.out.rd) HM1.out (set_may HM1.out HK.out HF1'.out) (HT.out.kept HX.out.chg))
            rw [hD] at HMK
            have hdi : ¬ (32 + (a.t.size : Int) < (D.length : Int)) := by omega
            clear hD hDl hmod
            go_wp2_with fail
            go_at_call 24
            refine HMK.out.mono ?_
            rintro e w11 ⟨ad, nd, rfl, hby, hck⟩
            clear hby HMK HZ HO2 cz0 cz1 cz2 cz3 cz4 cz5 cz6
            replace HX := Lib.hid (HX.out.kept hck)
            clear hck
            clear ca0 ca1 ca2 ca3 ca4 ca5 ca6 cb0 cb1 cb2 cb3 cb4 cb5 cb6
            have ca0 := HX.out.a.cell 0
            have ca1 := HX.out.a.cell 1
            have ca2 := HX.out.a.cell 2
            have ca3 := HX.out.a.cell 3
            have ca4 := HX.out.a.cell 4
            have ca5 := HX.out.a.cell 5
            have ca6 := HX.out.a.cell 6
            simp only [List.getElem?_toArray, List.getElem?_cons_zero, List.getElem?_cons_succ] at ca0 ca1 ca2 ca3 ca4 ca5 ca6
            have cb0 := HX.out.b.cell 0
            have cb1 := HX.out.b.cell 1
            have cb2 := HX.out.b.cell 2
            have cb3 := HX.out.b.cell 3
            have cb4 := HX.out.b.cell 4
            have cb5 := HX.out.b.cell 5
            have cb6 := HX.out.b.cell 6
            simp only [List.getElem?_toArray, List.getElem?_cons_zero, List.getElem?_cons_succ] at cb0 cb1 cb2 cb3 cb4 cb5 cb6
            obtain ⟨X, hX⟩ : ∃ X, diffL a b = X := ⟨_, rfl⟩
            have HMK := Lib.hid (dmake_ok w11 a b (.slice aa n na) _ (by rw [HN.out]; exact HA.out.kept HX.out.chg (fun _ _ => id)) (HB.out.kept HX.out.chg (fun _ _ => id)) HM1.out HM2.out (HT.out.kept HX.out.chg))
            rw [hX] at HMK
            have HXD := Lib.hid hX
            clear hX
            go_wp2_with fail
            go_at_call 24
            refine HMK.out.mono ?_
            rintro e w12 ⟨ax, nx, rfl, hby, hck⟩
            have HXB := Lib.hid hby
            clear hby HMK
            replace HX := Lib.hid (HX.out.kept hck)
            clear hck
            clear ca0 ca1 ca2 ca3 ca4 ca5 ca6 cb0 cb1 cb2 cb3 cb4 cb5 cb6
            have ca0 := HX.out.a.cell 0
            have ca1 := HX.out.a.cell 1
            have ca2 := HX.out.a.cell 2
            have ca3 := HX.out.a.cell 3
            have ca4 := HX.out.a.cell 4
            have ca5 := HX.out.a.cell 5
            have ca6 := HX.out.a.cell 6
            simp only [List.getElem?_toArray, List.getElem?_cons_zero, List.getElem?_cons_succ] at ca0 ca1 ca2 ca3 ca4 ca5 ca6
            have cb0 := HX.out.b.cell 0
            have cb1 := HX.out.b.cell 1
            have cb2 := HX.out.b.cell 2
            have cb3 := HX.out.b.cell 3
            have cb4 := HX.out.b.cell 4
            have cb5 := HX.out.b.cell 5
            have cb6 := HX.out.b.cell 6
            simp only [List.getElem?_toArray, List.getElem?_cons_zero, List.getElem?_cons_succ] at cb0 cb1 cb2 cb3 cb4 cb5 cb6
            obtain ⟨Y, hY⟩ : ∃ Y, b.key = Y := ⟨_, rfl⟩
            have HYD := Lib.hid hY
            have HEN := Lib.hid (kenc_sc w12 b _ (HB.out.kept HX.out.chg (fun _ _ => id)) (by omega) (by omega) (HT.out.kept HX.out.chg))
            rw [HM2.out, if_pos rfl, hY] at HEN
            clear hY
            go_wp2_with fail
            go_at_call 19
            refine HEN.out.mono ?_
            rintro e w13 ⟨vy, rfl, hbx⟩
            have HYB := Lib.hid (By.ofBx hbx (by rw [← HYD.out]; exact key_byte b))
            have hck := hbx.2.1
            replace HXB := Lib.hid (HXB.out.kept hck)
            clear hbx HEN
            obtain ⟨ay, ny, rfl, _⟩ := HYB.out.form
            replace HX := Lib.hid (HX.out.kept hck)
            clear hck
            clear ca0 ca1 ca2 ca3 ca4 ca5 ca6 cb0 cb1 cb2 cb3 cb4 cb5 cb6
            have ca0 := HX.out.a.cell 0
            have ca1 := HX.out.a.cell 1
            have ca2 := HX.out.a.cell 2
            have ca3 := HX.out.a.cell 3
            have ca4 := HX.out.a.cell 4
            have ca5 := HX.out.a.cell 5
            have ca6 := HX.out.a.cell 6
            simp only [List.getElem?_toArray, List.getElem?_cons_zero, List.getElem?_cons_succ] at ca0 ca1 ca2 ca3 ca4 ca5 ca6
            have cb0 := HX.out.b.cell 0
            have cb1 := HX.out.b.cell 1
            have cb2 := HX.out.b.cell 2
            have cb3 := HX.out.b.cell 3
            have cb4 := HX.out.b.cell 4
            have cb5 := HX.out.b.cell 5
            have cb6 := HX.out.b.cell 6
            simp only [List.getElem?_toArray, List.getElem?_cons_zero, List.getElem?_cons_succ] at cb0 cb1 cb2 cb3 cb4 cb5 cb6
            simp only [encE, if_true]
            obtain ⟨q, hq⟩ : ∃ q, (a.r != b.r) = q := ⟨_, rfl⟩
            obtain ⟨q2, hq2⟩ : ∃ q, (a.c != b.c) = q := ⟨_, rfl⟩
            have HW : Hid ((q || q2) = true → X = 1 :: Y) := Lib.hid (fun h => by
              rw [← HXD.out, ← HYD.out]
              refine if_pos ?_
              rw [← hq, ← hq2] at h
              simpa using h)
            have HP : Hid ((q || q2) = false → ∃ R, X = 0 :: R) := Lib.hid (fun h => by
              rw [← HXD.out]
              refine ⟨_, if_neg ?_⟩
              rw [← hq, ← hq2] at h
              simpa using h)
            cases q with
            | true =>
              have hXY := HW.out rfl
              have hxl : X.length = Y.length + 1 := by rw [hXY]; rfl
              have HXY2 := Lib.hid hXY
              have hxb := HXB.out
              obtain ⟨gx, ox, nx', hvx, hnx, hcx⟩ := HXB.out.at0 (by omega)
              cases hvx
              have hc0 := hcx 0 (by omega)
              rw [hXY] at hc0
              simp only [List.getD_cons_zero, Nat.add_zero] at hc0
              have HXC := Lib.hid hc0
              have hxi : (0 : Int) < (X.length : Int) := by omega
              have hx1 : (1 : Int) ≤ (X.length : Int) := by omega
              clear hcx hc0 hXY hxb hxl
              go_wp2_with fail
              go_at_call 23
              refine (dfirst_any w13 (HT.out.kept HX.out.chg)).mono ?_
              rintro e w14 ⟨rfl, hck⟩
              have hc0 := hck.cell HXC.out id
              replace HX := Lib.hid (HX.out.kept hck)
              replace HYB := Lib.hid (HYB.out.kept hck)
              have HXD2 : Hid (By w14 (.slice (addS (some ⟨gx, ox, none⟩) nx 1) (X.length - 1) (nx - 1)) Y) := Lib.hid (by
                have h := (HXB.out.kept hck).drop (l := 1) (by have := hx1; omega)
                rw [HXY2.out] at h
                rw [HXY2.out]
                exact h)
              clear hck
              go_wp2_with fail
              go_at_call 22
              refine (bytes_by HXD2.out HYB.out).mono ?_
              rw [decide_eq_true (rfl : Y = Y)]
              rintro e xx ⟨rfl, rfl⟩
              go_wp2
              go_ret
              exact ⟨rfl, HX.out.chg⟩
            | false =>
              cases q2 with
              | true =>
                have hXY := HW.out rfl
                have hxl : X.length = Y.length + 1 := by rw [hXY]; rfl
                have HXY2 := Lib.hid hXY
                have hxb := HXB.out
                obtain ⟨gx, ox, nx', hvx, hnx, hcx⟩ := HXB.out.at0 (by omega)
                cases hvx
                have hc0 := hcx 0 (by omega)
                rw [hXY] at hc0
                simp only [List.getD_cons_zero, Nat.add_zero] at hc0
                have HXC := Lib.hid hc0
                have hxi : (0 : Int) < (X.length : Int) := by omega
                have hx1 : (1 : Int) ≤ (X.length : Int) := by omega
                clear hcx hc0 hXY hxb hxl
                go_wp2_with fail
                go_at_call 23
                refine (dfirst_any w13 (HT.out.kept HX.out.chg)).mono ?_
                rintro e w14 ⟨rfl, hck⟩
                have hc0 := hck.cell HXC.out id
                replace HX := Lib.hid (HX.out.kept hck)
                replace HYB := Lib.hid (HYB.out.kept hck)
                have HXD2 : Hid (By w14 (.slice (addS (some ⟨gx, ox, none⟩) nx 1) (X.length - 1) (nx - 1)) Y) := Lib.hid (by
                  have h := (HXB.out.kept hck).drop (l := 1) (by have := hx1; omega)
                  rw [HXY2.out] at h
                  rw [HXY2.out]
                  exact h)
                clear hck
                go_wp2_with fail
                go_at_call 22
                refine (bytes_by HXD2.out HYB.out).mono ?_
                rw [decide_eq_true (rfl : Y = Y)]
                rintro e xx ⟨rfl, rfl⟩
                go_wp2
                go_ret
                exact ⟨rfl, HX.out.chg⟩
              | false =>
                obtain ⟨R, hR⟩ := HP.out rfl
                have hxl : 1 ≤ X.length := by rw [hR]; simp
                obtain ⟨gx, ox, nx', hvx, _, hcx⟩ := HXB.out.at0 (by omega)
                have hc0 := hcx 0 (by omega)
                cases hvx
                rw [hR] at hc0
                simp only [List.getD_cons_zero, Nat.add_zero] at hc0
                have HXC := Lib.hid hc0
                have hxi : (0 : Int) < (X.length : Int) := by omega
                clear hcx hc0 hR
                go_wp2_with fail
                go_at_call 23
                refine (dfirst_any w13 (HT.out.kept HX.out.chg)).mono ?_
                rintro e w14 ⟨rfl, hck⟩
                have hc0 := hck.cell HXC.out id
                replace HX := Lib.hid (HX.out.kept hck)
                clear hck
                go_wp2
                go_ret
                exact ⟨rfl, HX.out.chg⟩
theorem DiffSmall_walk (w : World) (r0 c0 y0 x0 : Int) (h0 : Bool) (t0 : ByteArray) (va0 : Value) (l0 : List Ce) (hr0 : Rd w 5 va0 l0.length (cellsV l0)) (nk0 : NilOk va0) (wf0 : ∀ c ∈ l0, Ce.wf c) (w0 : ((-9223372036854775808 ≤ r0 ∧ r0 ≤ 9223372036854775807) ∧ (-9223372036854775808 ≤ c0 ∧ c0 ≤ 9223372036854775807) ∧ (-9223372036854775808 ≤ y0 ∧ y0 ≤ 9223372036854775807) ∧ -9223372036854775808 ≤ x0 ∧ x0 ≤ 9223372036854775807))
    (r1 c1 y1 x1 : Int) (h1 : Bool) (t1 : ByteArray) (va1 : Value) (l1 : List Ce) (hr1 : Rd w 5 va1 l1.length (cellsV l1)) (nk1 : NilOk va1) (wf1 : ∀ c ∈ l1, Ce.wf c) (w1 : ((-9223372036854775808 ≤ r1 ∧ r1 ≤ 9223372036854775807) ∧ (-9223372036854775808 ≤ c1 ∧ c1 ≤ 9223372036854775807) ∧ (-9223372036854775808 ≤ y1 ∧ y1 ≤ 9223372036854775807) ∧ -9223372036854775808 ≤ x1 ∧ x1 ≤ 9223372036854775807))
    (a2 : Int) (w2 : -9223372036854775808 ≤ a2 ∧ a2 ≤ 9223372036854775807) (ht : Tab w) :
    Calls Tryd.prog 6 #[scV r0 c0 va0 y0 x0 h0 t0, scV r1 c1 va1 y1 x1 h1 t1, .int .i64 a2] w fun e w' => e = .returned (.bool true) ∧ Chg w w' nob :=
  DiffSmall_sc w ⟨r0, c0, l0, y0, x0, h0, t0⟩ ⟨r1, c1, l1, y1, x1, h1, t1⟩ va0 va1 hr0 hr1 a2 w2 ht
end Go.Proofs.YtiojhfaeeelfeaaDoor
