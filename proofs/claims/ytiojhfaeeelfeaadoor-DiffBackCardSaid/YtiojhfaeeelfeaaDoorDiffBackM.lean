/-
  DiffBack: what lies between two makes the one of the other; it is the only text that does; what is taken is what lies between.
-/
import Derived.Test.YtiojhfaeeelfeaaDoorDiff8M
namespace Go.Proofs.YtiojhfaeeelfeaaDoor
open Go.RowKit
set_option linter.unusedVariables false
set_option linter.unusedSimpArgs false

/-- Three screens in their boxes, behind w. -/
structure Box3 (w wr : World) (i j k : Nat) (A B C : Array Value) : Prop where
  chg : Chg w wr nob
  a : Blk wr i 26 A
  b : Blk wr j 26 B
  c : Blk wr k 26 C
theorem Box3.kept {w wr w' : World} {i j k : Nat} {A B C : Array Value} (h : Box3 w wr i j k A B C) (hc : Chg wr w' nob) : Box3 w w' i j k A B C := ⟨h.chg.trans hc (fun _ _ x => x), h.a.kept hc id, h.b.kept hc id, h.c.kept hc id⟩
theorem diff_same {a b c : Sc} (ha : a.may = true) (hb : b.may = true) (hc : c.may = true) : decide (diffL a b = diffL a c) = decide (b = c) := by
  rw [Bool.eq_iff_iff, decide_eq_true_iff, decide_eq_true_iff]
  exact ⟨fun h => diffL_inj ha hb hc h, fun h => by rw [h]⟩
set_option maxRecDepth 100000 in
set_option maxHeartbeats 4000000 in
theorem DiffBack_sc (w : World) (a b c : Sc) (va vb vc : Value) (ha : Rd w 5 va a.l.length (cellsV a.l)) (hb : Rd w 5 vb b.l.length (cellsV b.l)) (hc : Rd w 5 vc c.l.length (cellsV c.l)) (ad : Option Addr) (cd : Nat) (d : List Int) (hd : By w (.slice ad d.length cd) d) (ht : Tab w) :
    Calls Tryd.prog 5 #[scS a va, scS b vb, scS c vc, .slice ad d.length cd] w fun e w' => e = .returned (.bool true) ∧ Chg w w' nob := by
  have HT := Lib.hid ht
  have HD := Lib.hid hd
  obtain ⟨aa, na, rfl, _⟩ := ha.form
  obtain ⟨ab, nb, rfl, _⟩ := hb.form
  obtain ⟨ac, nc, rfl, _⟩ := hc.form
  have HA := Lib.hid ha
  have HB := Lib.hid hb
  have HC := Lib.hid hc
  clear ha hb hc hd ht
  obtain ⟨f1, hf1⟩ : ∃ x, (decide (a.l.length ≤ 3000) && decide (a.t.size ≤ 3000)) = x := ⟨_, rfl⟩
  obtain ⟨f2, hf2⟩ : ∃ x, (decide (b.l.length ≤ 3000) && decide (b.t.size ≤ 3000)) = x := ⟨_, rfl⟩
  obtain ⟨f3, hf3⟩ : ∃ x, (decide (c.l.length ≤ 3000) && decide (c.t.size ≤ 3000)) = x := ⟨_, rfl⟩
  have HF1 := Lib.hid hf1
  have HF2 := Lib.hid hf2
  have HF3 := Lib.hid hf3
  obtain ⟨m1, hm1⟩ : ∃ x, a.may = x := ⟨_, rfl⟩
  obtain ⟨m2, hm2⟩ : ∃ x, b.may = x := ⟨_, rfl⟩
  obtain ⟨m3, hm3⟩ : ∃ x, c.may = x := ⟨_, rfl⟩
  have HM1 := Lib.hid hm1
  have HM2 := Lib.hid hm2
  have HM3 := Lib.hid hm3
  clear hm1 hm2 hm3 hf1 hf2 hf3
  go_enter Tryd.func5, Tryd.ntmps5
  go_upto_region 1 with (fail)
  obtain ⟨w1, hw⟩ : ∃ W, ((w.alloc (.cells (scL a (.slice aa a.l.length na)) 26)).alloc (.cells (scL b (.slice ab b.l.length nb)) 26)).alloc (.cells (scL c (.slice ac c.l.length nc)) 26) = W := ⟨_, rfl⟩
  have hs1 : ((w.alloc (.cells (scL a (.slice aa a.l.length na)) 26)).alloc (.cells (scL b (.slice ab b.l.length nb)) 26)).heap.size = w.heap.size + 1 + 1 := by rw [size_al, size_al]
  have HX : Hid (Box3 w w1 w.heap.size (w.heap.size + 1) (w.heap.size + 1 + 1) (scL a (.slice aa a.l.length na)) (scL b (.slice ab b.l.length nb)) (scL c (.slice ac c.l.length nc))) := Lib.hid (by
    rw [← hw]
    exact ⟨(((Chg.refl w nob).alloc _).alloc _).alloc _, ((Blk.new w _ _).alloc _).alloc _, (Blk.new2' w _ _ _).alloc _, by rw [← hs1]; exact Blk.new _ _ _⟩)
  rw [hw]
  clear hw hs1
  obtain ⟨ia, hia⟩ : ∃ i, w.heap.size = i := ⟨_, rfl⟩
  rw [hia] at HX ⊢
  clear hia
  obtain ⟨ib, hib⟩ : ∃ i, ia + 1 = i := ⟨_, rfl⟩
  rw [hib] at HX ⊢
  clear hib
  obtain ⟨ic, hic⟩ : ∃ i, ib + 1 = i := ⟨_, rfl⟩
  rw [hic] at HX ⊢
  clear hic
  have ca0 := HX.out.a.cell 0
  have ca1 := HX.out.a.cell 1
  have ca2 := HX.out.a.cell 2
  have ca3 := HX.out.a.cell 3
  have ca4 := HX.out.a.cell 4
  have ca5 := HX.out.a.cell 5
  have ca6 := HX.out.a.cell 6
  simp only [List.getElem?_toArray, List.getElem?_cons_zero, List.getElem?_cons_succ] at ca0 ca1 ca2 ca3 ca4 ca5 ca6
  have cb0 := HX.out.b.cell 0
  have cb1 := HX.out.b.cell 1
  have cb2 := HX.out.b.cell 2
  have cb3 := HX.out.b.cell 3
  have cb4 := HX.out.b.cell 4
  have cb5 := HX.out.b.cell 5
  have cb6 := HX.out.b.cell 6
  simp only [List.getElem?_toArray, List.getElem?_cons_zero, List.getElem?_cons_succ] at cb0 cb1 cb2 cb3 cb4 cb5 cb6
  have cc0 := HX.out.c.cell 0
  have cc1 := HX.out.c.cell 1
  have cc2 := HX.out.c.cell 2
  have cc3 := HX.out.c.cell 3
  have cc4 := HX.out.c.cell 4
  have cc5 := HX.out.c.cell 5
  have cc6 := HX.out.c.cell 6
  simp only [List.getElem?_toArray, List.getElem?_cons_zero, List.getElem?_cons_succ] at cc0 cc1 cc2 cc3 cc4 cc5 cc6
  go_wp2_with fail
  go_at_call 23
  refine (dfirst_any w1 (HT.out.kept HX.out.chg)).mono ?_
  rintro e w2 ⟨rfl, hck⟩
  replace HX := Lib.hid (HX.out.kept hck)
  clear hck
  clear ca0 ca1 ca2 ca3 ca4 ca5 ca6 cb0 cb1 cb2 cb3 cb4 cb5 cb6 cc0 cc1 cc2 cc3 cc4 cc5 cc6
  have ca0 := HX.out.a.cell 0
  have ca1 := HX.out.a.cell 1
  have ca2 := HX.out.a.cell 2
  have ca3 := HX.out.a.cell 3
  have ca4 := HX.out.a.cell 4
  have ca5 := HX.out.a.cell 5
  have ca6 := HX.out.a.cell 6
  simp only [List.getElem?_toArray, List.getElem?_cons_zero, List.getElem?_cons_succ] at ca0 ca1 ca2 ca3 ca4 ca5 ca6
  have cb0 := HX.out.b.cell 0
  have cb1 := HX.out.b.cell 1
  have cb2 := HX.out.b.cell 2
  have cb3 := HX.out.b.cell 3
  have cb4 := HX.out.b.cell 4
  have cb5 := HX.out.b.cell 5
  have cb6 := HX.out.b.cell 6
  simp only [List.getElem?_toArray, List.getElem?_cons_zero, List.getElem?_cons_succ] at cb0 cb1 cb2 cb3 cb4 cb5 cb6
  have cc0 := HX.out.c.cell 0
  have cc1 := HX.out.c.cell 1
  have cc2 := HX.out.c.cell 2
  have cc3 := HX.out.c.cell 3
  have cc4 := HX.out.c.cell 4
  have cc5 := HX.out.c.cell 5
  have cc6 := HX.out.c.cell 6
  simp only [List.getElem?_toArray, List.getElem?_cons_zero, List.getElem?_cons_succ] at cc0 cc1 cc2 cc3 cc4 cc5 cc6
  go_wp2_with fail
  go_at_call 18
  refine (few_any w2 a.r a.c a.y a.x a.h a.t _ a.l.length ⟨_, _, rfl⟩).mono ?_
  rw [HF1.out]
  rintro e w3 ⟨rfl, hck⟩
  replace HX := Lib.hid (HX.out.kept hck)
  clear hck
  clear ca0 ca1 ca2 ca3 ca4 ca5 ca6 cb0 cb1 cb2 cb3 cb4 cb5 cb6 cc0 cc1 cc2 cc3 cc4 cc5 cc6
  have ca0 := HX.out.a.cell 0
  have ca1 := HX.out.a.cell 1
  have ca2 := HX.out.a.cell 2
  have ca3 := HX.out.a.cell 3
  have ca4 := HX.out.a.cell 4
  have ca5 := HX.out.a.cell 5
  have ca6 := HX.out.a.cell 6
  simp only [List.getElem?_toArray, List.getElem?_cons_zero, List.getElem?_cons_succ] at ca0 ca1 ca2 ca3 ca4 ca5 ca6
  have cb0 := HX.out.b.cell 0
  have cb1 := HX.out.b.cell 1
  have cb2 := HX.out.b.cell 2
  have cb3 := HX.out.b.cell 3
  have cb4 := HX.out.b.cell 4
  have cb5 := HX.out.b.cell 5
  have cb6 := HX.out.b.cell 6
  simp only [List.getElem?_toArray, List.getElem?_cons_zero, List.getElem?_cons_succ] at cb0 cb1 cb2 cb3 cb4 cb5 cb6
  have cc0 := HX.out.c.cell 0
  have cc1 := HX.out.c.cell 1
  have cc2 := HX.out.c.cell 2
  have cc3 := HX.out.c.cell 3
  have cc4 := HX.out.c.cell 4
  have cc5 := HX.out.c.cell 5
  have cc6 := HX.out.c.cell 6
  simp only [List.getElem?_toArray, List.getElem?_cons_zero, List.getElem?_cons_succ] at cc0 cc1 cc2 cc3 cc4 cc5 cc6
  cases f1 with
  | false =>
    go_wp2_with fail
    go_at_call 23
    refine (dfirst_any w3 (HT.out.kept HX.out.chg)).mono ?_
    rintro e x_ ⟨rfl, hck⟩
    replace HX := Lib.hid (HX.out.kept hck)
    clear hck
    go_wp2
    go_ret
    exact ⟨rfl, HX.out.chg⟩
  | true =>
    go_wp2_with fail
    go_at_call 18
    refine (few_any w3 b.r b.c b.y b.x b.h b.t _ b.l.length ⟨_, _, rfl⟩).mono ?_
    rw [HF2.out]
    rintro e w4 ⟨rfl, hck⟩
    replace HX := Lib.hid (HX.out.kept hck)
    clear hck
    clear ca0 ca1 ca2 ca3 ca4 ca5 ca6 cb0 cb1 cb2 cb3 cb4 cb5 cb6 cc0 cc1 cc2 cc3 cc4 cc5 cc6
    have ca0 := HX.out.a.cell 0
    have ca1 := HX.out.a.cell 1
    have ca2 := HX.out.a.cell 2
    have ca3 := HX.out.a.cell 3
    have ca4 := HX.out.a.cell 4
    have ca5 := HX.out.a.cell 5
    have ca6 := HX.out.a.cell 6
    simp only [List.getElem?_toArray, List.getElem?_cons_zero, List.getElem?_cons_succ] at ca0 ca1 ca2 ca3 ca4 ca5 ca6
    have cb0 := HX.out.b.cell 0
    have cb1 := HX.out.b.cell 1
    have cb2 := HX.out.b.cell 2
    have cb3 := HX.out.b.cell 3
    have cb4 := HX.out.b.cell 4
    have cb5 := HX.out.b.cell 5
    have cb6 := HX.out.b.cell 6
    simp only [List.getElem?_toArray, List.getElem?_cons_zero, List.getElem?_cons_succ] at cb0 cb1 cb2 cb3 cb4 cb5 cb6
    have cc0 := HX.out.c.cell 0
    have cc1 := HX.out.c.cell 1
    have cc2 := HX.out.c.cell 2
    have cc3 := HX.out.c.cell 3
    have cc4 := HX.out.c.cell 4
    have cc5 := HX.out.c.cell 5
    have cc6 := HX.out.c.cell 6
    simp only [List.getElem?_toArray, List.getElem?_cons_zero, List.getElem?_cons_succ] at cc0 cc1 cc2 cc3 cc4 cc5 cc6
    cases f2 with
    | false =>
      go_wp2_with fail
      go_at_call 23
      refine (dfirst_any w4 (HT.out.kept HX.out.chg)).mono ?_
      rintro e x_ ⟨rfl, hck⟩
      replace HX := Lib.hid (HX.out.kept hck)
      clear hck
      go_wp2
      go_ret
      exact ⟨rfl, HX.out.chg⟩
    | true =>
      go_wp2_with fail
      go_at_call 18
      refine (few_any w4 c.r c.c c.y c.x c.h c.t _ c.l.length ⟨_, _, rfl⟩).mono ?_
      rw [HF3.out]
      rintro e w5 ⟨rfl, hck⟩
      replace HX := Lib.hid (HX.out.kept hck)
      clear hck
      clear ca0 ca1 ca2 ca3 ca4 ca5 ca6 cb0 cb1 cb2 cb3 cb4 cb5 cb6 cc0 cc1 cc2 cc3 cc4 cc5 cc6
      have ca0 := HX.out.a.cell 0
      have ca1 := HX.out.a.cell 1
      have ca2 := HX.out.a.cell 2
      have ca3 := HX.out.a.cell 3
      have ca4 := HX.out.a.cell 4
      have ca5 := HX.out.a.cell 5
      have ca6 := HX.out.a.cell 6
      simp only [List.getElem?_toArray, List.getElem?_cons_zero, List.getElem?_cons_succ] at ca0 ca1 ca2 ca3 ca4 ca5 ca6
      have cb0 := HX.out.b.cell 0
      have cb1 := HX.out.b.cell 1
      have cb2 := HX.out.b.cell 2
      have cb3 := HX.out.b.cell 3
      have cb4 := HX.out.b.cell 4
      have cb5 := HX.out.b.cell 5
      have cb6 := HX.out.b.cell 6
      simp only [List.getElem?_toArray, List.getElem?_cons_zero, List.getElem?_cons_succ] at cb0 cb1 cb2 cb3 cb4 cb5 cb6
      have cc0 := HX.out.c.cell 0
      have cc1 := HX.out.c.cell 1
      have cc2 := HX.out.c.cell 2
      have cc3 := HX.out.c.cell 3
      have cc4 := HX.out.c.cell 4
      have cc5 := HX.out.c.cell 5
      have cc6 := HX.out.c.cell 6
      simp only [List.getElem?_toArray, List.getElem?_cons_zero, List.getElem?_cons_succ] at cc0 cc1 cc2 cc3 cc4 cc5 cc6
      cases f3 with
      | false =>
        go_wp2_with fail
        go_at_call 23
        refine (dfirst_any w5 (HT.out.kept HX.out.chg)).mono ?_
        rintro e x_ ⟨rfl, hck⟩
        replace HX := Lib.hid (HX.out.kept hck)
        clear hck
        go_wp2
        go_ret
        exact ⟨rfl, HX.out.chg⟩
      | true =>
        obtain ⟨n1, n2⟩ := Bool.and_eq_true_iff.1 HF1.out
        obtain ⟨n3, n4⟩ := Bool.and_eq_true_iff.1 HF2.out
        obtain ⟨n5, n6⟩ := Bool.and_eq_true_iff.1 HF3.out
        simp only [decide_eq_true_eq] at n1 n2 n3 n4 n5 n6
        by_cases hdl : d.length ≤ 3000
        · have hdi : ¬ (3000 : Int) < (d.length : Int) := by omega
          have HMY := Lib.hid (may_sc w5 a _ (HA.out.kept HX.out.chg (fun _ _ => id)) (by omega) (by omega) (HT.out.kept HX.out.chg))
          rw [HM1.out] at HMY
          go_wp2_with fail
          go_at_call 20
          refine HMY.out.mono ?_
          rintro e w6 ⟨rfl, hck⟩
          clear HMY
          replace HX := Lib.hid (HX.out.kept hck)
          clear hck
          clear ca0 ca1 ca2 ca3 ca4 ca5 ca6 cb0 cb1 cb2 cb3 cb4 cb5 cb6 cc0 cc1 cc2 cc3 cc4 cc5 cc6
          have ca0 := HX.out.a.cell 0
          have ca1 := HX.out.a.cell 1
          have ca2 := HX.out.a.cell 2
          have ca3 := HX.out.a.cell 3
          have ca4 := HX.out.a.cell 4
          have ca5 := HX.out.a.cell 5
          have ca6 := HX.out.a.cell 6
          simp only [List.getElem?_toArray, List.getElem?_cons_zero, List.getElem?_cons_succ] at ca0 ca1 ca2 ca3 ca4 ca5 ca6
          have cb0 := HX.out.b.cell 0
          have cb1 := HX.out.b.cell 1
          have cb2 := HX.out.b.cell 2
          have cb3 := HX.out.b.cell 3
          have cb4 := HX.out.b.cell 4
          have cb5 := HX.out.b.cell 5
          have cb6 := HX.out.b.cell 6
          simp only [List.getElem?_toArray, List.getElem?_cons_zero, List.getElem?_cons_succ] at cb0 cb1 cb2 cb3 cb4 cb5 cb6
          have cc0 := HX.out.c.cell 0
          have cc1 := HX.out.c.cell 1
          have cc2 := HX.out.c.cell 2
          have cc3 := HX.out.c.cell 3
          have cc4 := HX.out.c.cell 4
          have cc5 := HX.out.c.cell 5
          have cc6 := HX.out.c.cell 6
          simp only [List.getElem?_toArray, List.getElem?_cons_zero, List.getElem?_cons_succ] at cc0 cc1 cc2 cc3 cc4 cc5 cc6
          cases m1 with
          | false =>
            go_wp2_with fail
            go_at_call 23
            refine (dfirst_any w6 (HT.out.kept HX.out.chg)).mono ?_
            rintro e x_ ⟨rfl, hck⟩
            replace HX := Lib.hid (HX.out.kept hck)
            clear hck
            go_wp2
            go_ret
            exact ⟨rfl, HX.out.chg⟩
          | true =>
            have HMY := Lib.hid (may_sc w6 b _ (HB.out.kept HX.out.chg (fun _ _ => id)) (by omega) (by omega) (HT.out.kept HX.out.chg))
            rw [HM2.out] at HMY
            go_wp2_with fail
            go_at_call 20
            refine HMY.out.mono ?_
            rintro e w7 ⟨rfl, hck⟩
            clear HMY
            replace HX := Lib.hid (HX.out.kept hck)
            clear hck
            clear ca0 ca1 ca2 ca3 ca4 ca5 ca6 cb0 cb1 cb2 cb3 cb4 cb5 cb6 cc0 cc1 cc2 cc3 cc4 cc5 cc6
            have ca0 := HX.out.a.cell 0
            have ca1 := HX.out.a.cell 1
            have ca2 := HX.out.a.cell 2
            have ca3 := HX.out.a.cell 3
            have ca4 := HX.out.a.cell 4
            have ca5 := HX.out.a.cell 5
            have ca6 := HX.out.a.cell 6
            simp only [List.getElem?_toArray, List.getElem?_cons_zero, List.getElem?_cons_succ] at ca0 ca1 ca2 ca3 ca4 ca5 ca6
            have cb0 := HX.out.b.cell 0
            have cb1 := HX.out.b.cell 1
            have cb2 := HX.out.b.cell 2
            have cb3 := HX.out.b.cell 3
            have cb4 := HX.out.b.cell 4
            have cb5 := HX.out.b.cell 5
            have cb6 := HX.out.b.cell 6
            simp only [List.getElem?_toArray, List.getElem?_cons_zero, List.getElem?_cons_succ] at cb0 cb1 cb2 cb3 cb4 cb5 cb6
            have cc0 := HX.out.c.cell 0
            have cc1 := HX.out.c.cell 1
            have cc2 := HX.out.c.cell 2
            have cc3 := HX.out.c.cell 3
            have cc4 := HX.out.c.cell 4
            have cc5 := HX.out.c.cell 5
            have cc6 := HX.out.c.cell 6
            simp only [List.getElem?_toArray, List.getElem?_cons_zero, List.getElem?_cons_succ] at cc0 cc1 cc2 cc3 cc4 cc5 cc6
            cases m2 with
            | false =>
              go_wp2_with fail
              go_at_call 23
              refine (dfirst_any w7 (HT.out.kept HX.out.chg)).mono ?_
              rintro e x_ ⟨rfl, hck⟩
              replace HX := Lib.hid (HX.out.kept hck)
              clear hck
              go_wp2
              go_ret
              exact ⟨rfl, HX.out.chg⟩
            | true =>
              have HMY := Lib.hid (may_sc w7 c _ (HC.out.kept HX.out.chg (fun _ _ => id)) (by omega) (by omega) (HT.out.kept HX.out.chg))
              rw [HM3.out] at HMY
              go_wp2_with fail
              go_at_call 20
              refine HMY.out.mono ?_
              rintro e w8 ⟨rfl, hck⟩
              clear HMY
              replace HX := Lib.hid (HX.out.kept hck)
              clear hck
              clear ca0 ca1 ca2 ca3 ca4 ca5 ca6 cb0 cb1 cb2 cb3 cb4 cb5 cb6 cc0 cc1 cc2 cc3 cc4 cc5 cc6
              have ca0 := HX.out.a.cell 0
              have ca1 := HX.out.a.cell 1
              have ca2 := HX.out.a.cell 2
              have ca3 := HX.out.a.cell 3
              have ca4 := HX.out.a.cell 4
              have ca5 := HX.out.a.cell 5
              have ca6 := HX.out.a.cell 6
              simp only [List.getElem?_toArray, List.getElem?_cons_zero, List.getElem?_cons_succ] at ca0 ca1 ca2 ca3 ca4 ca5 ca6
              have cb0 := HX.out.b.cell 0
              have cb1 := HX.out.b.cell 1
              have cb2 := HX.out.b.cell 2
              have cb3 := HX.out.b.cell 3
              have cb4 := HX.out.b.cell 4
              have cb5 := HX.out.b.cell 5
              have cb6 := HX.out.b.cell 6
              simp only [List.getElem?_toArray, List.getElem?_cons_zero, List.getElem?_cons_succ] at cb0 cb1 cb2 cb3 cb4 cb5 cb6
              have cc0 := HX.out.c.cell 0
              have cc1 := HX.out.c.cell 1
              have cc2 := HX.out.c.cell 2
              have cc3 := HX.out.c.cell 3
              have cc4 := HX.out.c.cell 4
              have cc5 := HX.out.c.cell 5
              have cc6 := HX.out.c.cell 6
              simp only [List.getElem?_toArray, List.getElem?_cons_zero, List.getElem?_cons_succ] at cc0 cc1 cc2 cc3 cc4 cc5 cc6
              cases m3 with
              | false =>
                go_wp2_with fail
                go_at_call 23
                refine (dfirst_any w8 (HT.out.kept HX.out.chg)).mono ?_
                rintro e x_ ⟨rfl, hck⟩
                replace HX := Lib.hid (HX.out.kept hck)
                clear hck
                go_wp2
                go_ret
                exact ⟨rfl, HX.out.chg⟩
              | true =>
                obtain ⟨X, hX⟩ : ∃ X, diffL a b = X := ⟨_, rfl⟩
                obtain ⟨Y, hY⟩ : ∃ Y, diffL a c = Y := ⟨_, rfl⟩
                obtain ⟨qq, hq⟩ : ∃ q, decide (X = Y) = q := ⟨_, rfl⟩
                have hq2 : decide (b = c) = qq := by rw [← hq, ← hX, ← hY]; exact (diff_same HM1.out HM2.out HM3.out).symm
                have HXD := Lib.hid hX
                have HQ1 := Lib.hid hq
                have HQ2 := Lib.hid hq2
                have hq3 : (qq != qq) = false := bne_self_eq_false qq
                have HMK := Lib.hid (dmake_ok w8 a b _ _ (HA.out.kept HX.out.chg (fun _ _ => id)) (HB.out.kept HX.out.chg (fun _ _ => id)) HM1.out HM2.out (HT.out.kept HX.out.chg))
                rw [hX] at HMK
                clear hX hq hq2
                go_wp2_with fail
                go_at_call 24
                refine HMK.out.mono ?_
                rintro e w9 ⟨ax, nx, rfl, hby, hck⟩
                have HXB := Lib.hid hby
                clear hby HMK
                replace HX := Lib.hid (HX.out.kept hck)
                clear hck
                clear ca0 ca1 ca2 ca3 ca4 ca5 ca6 cb0 cb1 cb2 cb3 cb4 cb5 cb6 cc0 cc1 cc2 cc3 cc4 cc5 cc6
                have ca0 := HX.out.a.cell 0
                have ca1 := HX.out.a.cell 1
                have ca2 := HX.out.a.cell 2
                have ca3 := HX.out.a.cell 3
                have ca4 := HX.out.a.cell 4
                have ca5 := HX.out.a.cell 5
                have ca6 := HX.out.a.cell 6
                simp only [List.getElem?_toArray, List.getElem?_cons_zero, List.getElem?_cons_succ] at ca0 ca1 ca2 ca3 ca4 ca5 ca6
                have cb0 := HX.out.b.cell 0
                have cb1 := HX.out.b.cell 1
                have cb2 := HX.out.b.cell 2
                have cb3 := HX.out.b.cell 3
                have cb4 := HX.out.b.cell 4
                have cb5 := HX.out.b.cell 5
                have cb6 := HX.out.b.cell 6
                simp only [List.getElem?_toArray, List.getElem?_cons_zero, List.getElem?_cons_succ] at cb0 cb1 cb2 cb3 cb4 cb5 cb6
                have cc0 := HX.out.c.cell 0
                have cc1 := HX.out.c.cell 1
                have cc2 := HX.out.c.cell 2
                have cc3 := HX.out.c.cell 3
                have cc4 := HX.out.c.cell 4
                have cc5 := HX.out.c.cell 5
                have cc6 := HX.out.c.cell 6
                simp only [List.getElem?_toArray, List.getElem?_cons_zero, List.getElem?_cons_succ] at cc0 cc1 cc2 cc3 cc4 cc5 cc6
                have HMK := Lib.hid (dmake_ok w9 a c _ _ (HA.out.kept HX.out.chg (fun _ _ => id)) (HC.out.kept HX.out.chg (fun _ _ => id)) HM1.out HM3.out (HT.out.kept HX.out.chg))
                rw [hY] at HMK
                clear hY
                go_wp2_with fail
                go_at_call 24
                refine HMK.out.mono ?_
                rintro e w10 ⟨ay, ny, rfl, hby, hck⟩
                have HYB := Lib.hid hby
                replace HXB := Lib.hid (HXB.out.kept hck)
                clear hby HMK
                replace HX := Lib.hid (HX.out.kept hck)
                clear hck
                clear ca0 ca1 ca2 ca3 ca4 ca5 ca6 cb0 cb1 cb2 cb3 cb4 cb5 cb6 cc0 cc1 cc2 cc3 cc4 cc5 cc6
                have ca0 := HX.out.a.cell 0
                have ca1 := HX.out.a.cell 1
                have ca2 := HX.out.a.cell 2
                have ca3 := HX.out.a.cell 3
                have ca4 := HX.out.a.cell 4
                have ca5 := HX.out.a.cell 5
                have ca6 := HX.out.a.cell 6
                simp only [List.getElem?_toArray, List.getElem?_cons_zero, List.getElem?_cons_succ] at ca0 ca1 ca2 ca3 ca4 ca5 ca6
                have cb0 := HX.out.b.cell 0
                have cb1 := HX.out.b.cell 1
                have cb2 := HX.out.b.cell 2
                have cb3 := HX.out.b.cell 3
                have cb4 := HX.out.b.cell 4
                have cb5 := HX.out.b.cell 5
                have cb6 := HX.out.b.cell 6
                simp only [List.getElem?_toArray, List.getElem?_cons_zero, List.getElem?_cons_succ] at cb0 cb1 cb2 cb3 cb4 cb5 cb6
                have cc0 := HX.out.c.cell 0
                have cc1 := HX.out.c.cell 1
                have cc2 := HX.out.c.cell 2
                have cc3 := HX.out.c.cell 3
                have cc4 := HX.out.c.cell 4
                have cc5 := HX.out.c.cell 5
                have cc6 := HX.out.c.cell 6
                simp only [List.getElem?_toArray, List.getElem?_cons_zero, List.getElem?_cons_succ] at cc0 cc1 cc2 cc3 cc4 cc5 cc6
                have HAP := Lib.hid (dapply_ok w10 a b _ (.slice ax X.length nx) (HA.out.kept HX.out.chg (fun _ _ => id)) HM1.out HM2.out (by rw [HXD.out]; exact HXB.out) (HT.out.kept HX.out.chg))
                go_wp2_with fail
                go_at_call 25
                refine HAP.out.mono ?_
                rintro e w11 ⟨as1, ns1, rfl, hcs, hck⟩
                have HSS := Lib.hid hcs
                replace HXB := Lib.hid (HXB.out.kept hck)
                replace HYB := Lib.hid (HYB.out.kept hck)
                clear hcs HAP
                replace HX := Lib.hid (HX.out.kept hck)
                clear hck
                clear ca0 ca1 ca2 ca3 ca4 ca5 ca6 cb0 cb1 cb2 cb3 cb4 cb5 cb6 cc0 cc1 cc2 cc3 cc4 cc5 cc6
                have ca0 := HX.out.a.cell 0
                have ca1 := HX.out.a.cell 1
                have ca2 := HX.out.a.cell 2
                have ca3 := HX.out.a.cell 3
                have ca4 := HX.out.a.cell 4
                have ca5 := HX.out.a.cell 5
                have ca6 := HX.out.a.cell 6
                simp only [List.getElem?_toArray, List.getElem?_cons_zero, List.getElem?_cons_succ] at ca0 ca1 ca2 ca3 ca4 ca5 ca6
                have cb0 := HX.out.b.cell 0
                have cb1 := HX.out.b.cell 1
                have cb2 := HX.out.b.cell 2
                have cb3 := HX.out.b.cell 3
                have cb4 := HX.out.b.cell 4
                have cb5 := HX.out.b.cell 5
                have cb6 := HX.out.b.cell 6
                simp only [List.getElem?_toArray, List.getElem?_cons_zero, List.getElem?_cons_succ] at cb0 cb1 cb2 cb3 cb4 cb5 cb6
                have cc0 := HX.out.c.cell 0
                have cc1 := HX.out.c.cell 1
                have cc2 := HX.out.c.cell 2
                have cc3 := HX.out.c.cell 3
                have cc4 := HX.out.c.cell 4
                have cc5 := HX.out.c.cell 5
                have cc6 := HX.out.c.cell 6
                simp only [List.getElem?_toArray, List.getElem?_cons_zero, List.getElem?_cons_succ] at cc0 cc1 cc2 cc3 cc4 cc5 cc6
                go_upto_region 8 with (fail)
                obtain ⟨w12, hw⟩ : ∃ W, w11.alloc (.cells (scL b (.slice as1 b.l.length ns1)) 26) = W := ⟨_, rfl⟩
                have hck : Chg w11 w12 nob := by rw [← hw]; exact (Chg.refl w11 nob).alloc _
                have HZ : Hid (Blk w12 w11.heap.size 26 (scL b (.slice as1 b.l.length ns1))) := Lib.hid (by rw [← hw]; exact Blk.new w11 _ _)
                rw [hw]
                clear hw
                obtain ⟨iz, hiz⟩ : ∃ i, w11.heap.size = i := ⟨_, rfl⟩
                rw [hiz] at HZ ⊢
                clear hiz
                replace HSS := Lib.hid (HSS.out.kept hck)
                replace HXB := Lib.hid (HXB.out.kept hck)
                replace HYB := Lib.hid (HYB.out.kept hck)
                replace HX := Lib.hid (HX.out.kept hck)
                clear hck
                clear ca0 ca1 ca2 ca3 ca4 ca5 ca6 cb0 cb1 cb2 cb3 cb4 cb5 cb6 cc0 cc1 cc2 cc3 cc4 cc5 cc6
                have ca0 := HX.out.a.cell 0
                have ca1 := HX.out.a.cell 1
                have ca2 := HX.out.a.cell 2
                have ca3 := HX.out.a.cell 3
                have ca4 := HX.out.a.cell 4
                have ca5 := HX.out.a.cell 5
                have ca6 := HX.out.a.cell 6
                simp only [List.getElem?_toArray, List.getElem?_cons_zero, List.getElem?_cons_succ] at ca0 ca1 ca2 ca3 ca4 ca5 ca6
                have cb0 := HX.out.b.cell 0
                have cb1 := HX.out.b.cell 1
                have cb2 := HX.out.b.cell 2
                have cb3 := HX.out.b.cell 3
                have cb4 := HX.out.b.cell 4
                have cb5 := HX.out.b.cell 5
                have cb6 := HX.out.b.cell 6
                simp only [List.getElem?_toArray, List.getElem?_cons_zero, List.getElem?_cons_succ] at cb0 cb1 cb2 cb3 cb4 cb5 cb6
                have cc0 := HX.out.c.cell 0
                have cc1 := HX.out.c.cell 1
                have cc2 := HX.out.c.cell 2
                have cc3 := HX.out.c.cell 3
                have cc4 := HX.out.c.cell 4
                have cc5 := HX.out.c.cell 5
                have cc6 := HX.out.c.cell 6
                simp only [List.getElem?_toArray, List.getElem?_cons_zero, List.getElem?_cons_succ] at cc0 cc1 cc2 cc3 cc4 cc5 cc6
                go_cut [97] (fun cv wx => cv = .bool false ∧ Hid (Box3 w wx ia ib ic (scL a (.slice aa a.l.length na)) (scL b (.slice ab b.l.length nb)) (scL c (.slice ac c.l.length nc))))
                case first =>
                  refine wp_one [11, 12, 20, 21] [13, 19, 22] [(19, [20, 21])] [0, 1, 2, 3, 4, 5, 6, 7, 8, 9, 10, 11, 12, 13, 14, 15, 16, 17, 18, 20, 21, 19, 22, 23, 24] rfl (by kernel_rfl) (fun _ _ _ _ _ h => h) ?_; simp only [List.map_cons, List.map_nil, List.getElem?_toArray, List.getElem?_cons_zero, List.getElem?_cons_succ]
                  obtain ⟨wD, hwd⟩ : ∃ W, World.drew w12 = W := ⟨_, rfl⟩
                  have hck : Chg w12 wD nob := by rw [← hwd]; exact (Chg.refl w12 nob).drew
                  rw [hwd]
                  clear hwd
                  replace HSS := Lib.hid (HSS.out.kept hck)
                  replace HXB := Lib.hid (HXB.out.kept hck)
                  replace HYB := Lib.hid (HYB.out.kept hck)
                  replace HZ := Lib.hid (HZ.out.kept hck id)
                  replace HX := Lib.hid (HX.out.kept hck)
                  clear hck
                  clear ca0 ca1 ca2 ca3 ca4 ca5 ca6 cb0 cb1 cb2 cb3 cb4 cb5 cb6 cc0 cc1 cc2 cc3 cc4 cc5 cc6
                  have ca0 := HX.out.a.cell 0
                  have ca1 := HX.out.a.cell 1
                  have ca2 := HX.out.a.cell 2
                  have ca3 := HX.out.a.cell 3
                  have ca4 := HX.out.a.cell 4
                  have ca5 := HX.out.a.cell 5
                  have ca6 := HX.out.a.cell 6
                  simp only [List.getElem?_toArray, List.getElem?_cons_zero, List.getElem?_cons_succ] at ca0 ca1 ca2 ca3 ca4 ca5 ca6
                  have cb0 := HX.out.b.cell 0
                  have cb1 := HX.out.b.cell 1
                  have cb2 := HX.out.b.cell 2
                  have cb3 := HX.out.b.cell 3
                  have cb4 := HX.out.b.cell 4
                  have cb5 := HX.out.b.cell 5
                  have cb6 := HX.out.b.cell 6
                  simp only [List.getElem?_toArray, List.getElem?_cons_zero, List.getElem?_cons_succ] at cb0 cb1 cb2 cb3 cb4 cb5 cb6
                  have cc0 := HX.out.c.cell 0
                  have cc1 := HX.out.c.cell 1
                  have cc2 := HX.out.c.cell 2
                  have cc3 := HX.out.c.cell 3
                  have cc4 := HX.out.c.cell 4
                  have cc5 := HX.out.c.cell 5
                  have cc6 := HX.out.c.cell 6
                  simp only [List.getElem?_toArray, List.getElem?_cons_zero, List.getElem?_cons_succ] at cc0 cc1 cc2 cc3 cc4 cc5 cc6
                  have cz0 := HZ.out.cell 0
                  have cz1 := HZ.out.cell 1
                  have cz2 := HZ.out.cell 2
                  have cz3 := HZ.out.cell 3
                  have cz4 := HZ.out.cell 4
                  have cz5 := HZ.out.cell 5
                  have cz6 := HZ.out.cell 6
                  simp only [List.getElem?_toArray, List.getElem?_cons_zero, List.getElem?_cons_succ] at cz0 cz1 cz2 cz3 cz4 cz5 cz6
                  (repeat (first | (apply can0; (· rfl); (· rfl); (· (intro w'; first | (go_simp; with_reducible rfl) | (go_simp; done))); simp only [Act.put, List.setIfInBounds_toArray, List.set_cons_zero, List.set_cons_succ]) | (apply can1; (· rfl); (· rfl); (· (first | (go_simp; with_reducible rfl) | (go_simp; done))); simp only [Act.put, List.setIfInBounds_toArray, List.set_cons_zero, List.set_cons_succ]) | (apply canN; (· rfl); (· rfl); simp only [Act.put, List.setIfInBounds_toArray, List.set_cons_zero, List.set_cons_succ]) | (apply canN1; (· rfl); (· rfl); simp only [Act.put, List.setIfInBounds_toArray, List.set_cons_zero, List.set_cons_succ]) | (apply can0; (· rfl); (· (go_simp; done)); (· (intro w'; first | (go_simp; with_reducible rfl) | (go_simp; done))); simp only [Act.put, List.setIfInBounds_toArray, List.set_cons_zero, List.set_cons_succ]) | (apply can1; (· rfl); (· (go_simp; done)); (· (first | (go_simp; with_reducible rfl) | (go_simp; done))); simp only [Act.put, List.setIfInBounds_toArray, List.set_cons_zero, List.set_cons_succ]) | (apply canN; (· rfl); (· (go_simp; done)); simp only [Act.put, List.setIfInBounds_toArray, List.set_cons_zero, List.set_cons_succ]) | (apply canN1; (· rfl); (· (go_simp; done)); simp only [Act.put, List.setIfInBounds_toArray, List.set_cons_zero, List.set_cons_succ])))
                  refine canW rfl [] rfl (fun K hK => ?_)
                  go_simp
                  go_at_call 21
                  refine (same_scs wD b _ _ HSS.out.1.rd (HB.out.kept HX.out.chg (fun _ _ => id)) (by omega)).mono ?_
                  rintro e wE ⟨rfl, hck⟩
                  replace HXB := Lib.hid (HXB.out.kept hck)
                  replace HYB := Lib.hid (HYB.out.kept hck)
                  clear cz0 cz1 cz2 cz3 cz4 cz5 cz6 HZ HSS
                  replace HX := Lib.hid (HX.out.kept hck)
                  clear hck
                  clear ca0 ca1 ca2 ca3 ca4 ca5 ca6 cb0 cb1 cb2 cb3 cb4 cb5 cb6 cc0 cc1 cc2 cc3 cc4 cc5 cc6
                  have ca0 := HX.out.a.cell 0
                  have ca1 := HX.out.a.cell 1
                  have ca2 := HX.out.a.cell 2
                  have ca3 := HX.out.a.cell 3
                  have ca4 := HX.out.a.cell 4
                  have ca5 := HX.out.a.cell 5
                  have ca6 := HX.out.a.cell 6
                  simp only [List.getElem?_toArray, List.getElem?_cons_zero, List.getElem?_cons_succ] at ca0 ca1 ca2 ca3 ca4 ca5 ca6
                  have cb0 := HX.out.b.cell 0
                  have cb1 := HX.out.b.cell 1
                  have cb2 := HX.out.b.cell 2
                  have cb3 := HX.out.b.cell 3
                  have cb4 := HX.out.b.cell 4
                  have cb5 := HX.out.b.cell 5
                  have cb6 := HX.out.b.cell 6
                  simp only [List.getElem?_toArray, List.getElem?_cons_zero, List.getElem?_cons_succ] at cb0 cb1 cb2 cb3 cb4 cb5 cb6
                  have cc0 := HX.out.c.cell 0
                  have cc1 := HX.out.c.cell 1
                  have cc2 := HX.out.c.cell 2
                  have cc3 := HX.out.c.cell 3
                  have cc4 := HX.out.c.cell 4
                  have cc5 := HX.out.c.cell 5
                  have cc6 := HX.out.c.cell 6
                  simp only [List.getElem?_toArray, List.getElem?_cons_zero, List.getElem?_cons_succ] at cc0 cc1 cc2 cc3 cc4 cc5 cc6
                  (refine hK _ _ (fun u hu => by cases hu) ?_; clear hK K; try simp only [Act.put, List.setIfInBounds_toArray, List.set_cons_zero, List.set_cons_succ])
                  (repeat (first | (apply can0; (· rfl); (· rfl); (· (intro w'; first | (go_simp; with_reducible rfl) | (go_simp; done))); simp only [Act.put, List.setIfInBounds_toArray, List.set_cons_zero, List.set_cons_succ]) | (apply can1; (· rfl); (· rfl); (· (first | (go_simp; with_reducible rfl) | (go_simp; done))); simp only [Act.put, List.setIfInBounds_toArray, List.set_cons_zero, List.set_cons_succ]) | (apply canN; (· rfl); (· rfl); simp only [Act.put, List.setIfInBounds_toArray, List.set_cons_zero, List.set_cons_succ]) | (apply canN1; (· rfl); (· rfl); simp only [Act.put, List.setIfInBounds_toArray, List.set_cons_zero, List.set_cons_succ]) | (apply can0; (· rfl); (· (go_simp; done)); (· (intro w'; first | (go_simp; with_reducible rfl) | (go_simp; done))); simp only [Act.put, List.setIfInBounds_toArray, List.set_cons_zero, List.set_cons_succ]) | (apply can1; (· rfl); (· (go_simp; done)); (· (first | (go_simp; with_reducible rfl) | (go_simp; done))); simp only [Act.put, List.setIfInBounds_toArray, List.set_cons_zero, List.set_cons_succ]) | (apply canN; (· rfl); (· (go_simp; done)); simp only [Act.put, List.setIfInBounds_toArray, List.set_cons_zero, List.set_cons_succ]) | (apply canN1; (· rfl); (· (go_simp; done)); simp only [Act.put, List.setIfInBounds_toArray, List.set_cons_zero, List.set_cons_succ])))
                  refine canW rfl [20, 21] rfl (fun K hK => ?_)
                  go_simp
                  go_at_call 22
                  refine (bytes_by HXB.out HYB.out).mono ?_
                  rw [HQ1.out]
                  rintro e xx ⟨rfl, rfl⟩
                  (refine hK _ _ (fun u hu => by (simp only [List.mem_cons, List.not_mem_nil, or_false] at hu); (first | (subst hu; exact reRun_mk rfl (by first | (go_simp; with_reducible rfl) | (go_simp; done)) (holds_at rfl)) | ((repeat' (first | (rcases hu with rfl | hu) | (subst hu))) <;> exact reRun_mk rfl (by first | (go_simp; with_reducible rfl) | (go_simp; done)) (holds_at rfl)))) ?_; clear hK K; try simp only [Act.put, List.setIfInBounds_toArray, List.set_cons_zero, List.set_cons_succ])
                  (repeat (first | (apply can0; (· rfl); (· rfl); (· (intro w'; first | (go_simp; with_reducible rfl) | (go_simp; done))); simp only [Act.put, List.setIfInBounds_toArray, List.set_cons_zero, List.set_cons_succ]) | (apply can1; (· rfl); (· rfl); (· (first | (go_simp; with_reducible rfl) | (go_simp; done))); simp only [Act.put, List.setIfInBounds_toArray, List.set_cons_zero, List.set_cons_succ]) | (apply canN; (· rfl); (· rfl); simp only [Act.put, List.setIfInBounds_toArray, List.set_cons_zero, List.set_cons_succ]) | (apply canN1; (· rfl); (· rfl); simp only [Act.put, List.setIfInBounds_toArray, List.set_cons_zero, List.set_cons_succ]) | (apply can0; (· rfl); (· (go_simp; done)); (· (intro w'; first | (go_simp; with_reducible rfl) | (go_simp; done))); simp only [Act.put, List.setIfInBounds_toArray, List.set_cons_zero, List.set_cons_succ]) | (apply can1; (· rfl); (· (go_simp; done)); (· (first | (go_simp; with_reducible rfl) | (go_simp; done))); simp only [Act.put, List.setIfInBounds_toArray, List.set_cons_zero, List.set_cons_succ]) | (apply canN; (· rfl); (· (go_simp; done)); simp only [Act.put, List.setIfInBounds_toArray, List.set_cons_zero, List.set_cons_succ]) | (apply canN1; (· rfl); (· (go_simp; done)); simp only [Act.put, List.setIfInBounds_toArray, List.set_cons_zero, List.set_cons_succ])))
                  have HSM := Lib.hid (same_any wE b c _ _ (HB.out.kept HX.out.chg (fun _ _ => id)) (HC.out.kept HX.out.chg (fun _ _ => id)) (by omega))
                  rw [HQ2.out] at HSM
                  refine canW rfl [] rfl (fun K hK => ?_)
                  go_simp
                  go_at_call 21
                  refine HSM.out.mono ?_
                  rintro e wF ⟨rfl, hck⟩
                  replace HX := Lib.hid (HX.out.kept hck)
                  clear hck
                  (refine hK _ _ (fun u hu => by cases hu) ?_; clear hK K; try simp only [Act.put, List.setIfInBounds_toArray, List.set_cons_zero, List.set_cons_succ])
                  (repeat (first | (apply can0; (· rfl); (· rfl); (· (intro w'; first | (go_simp; with_reducible rfl) | (go_simp; done))); simp only [Act.put, List.setIfInBounds_toArray, List.set_cons_zero, List.set_cons_succ]) | (apply can1; (· rfl); (· rfl); (· (first | (go_simp; with_reducible rfl) | (go_simp; done))); simp only [Act.put, List.setIfInBounds_toArray, List.set_cons_zero, List.set_cons_succ]) | (apply canN; (· rfl); (· rfl); simp only [Act.put, List.setIfInBounds_toArray, List.set_cons_zero, List.set_cons_succ]) | (apply canN1; (· rfl); (· rfl); simp only [Act.put, List.setIfInBounds_toArray, List.set_cons_zero, List.set_cons_succ]) | (apply can0; (· rfl); (· (go_simp; done)); (· (intro w'; first | (go_simp; with_reducible rfl) | (go_simp; done))); simp only [Act.put, List.setIfInBounds_toArray, List.set_cons_zero, List.set_cons_succ]) | (apply can1; (· rfl); (· (go_simp; done)); (· (first | (go_simp; with_reducible rfl) | (go_simp; done))); simp only [Act.put, List.setIfInBounds_toArray, List.set_cons_zero, List.set_cons_succ]) | (apply canN; (· rfl); (· (go_simp; done)); simp only [Act.put, List.setIfInBounds_toArray, List.set_cons_zero, List.set_cons_succ]) | (apply canN1; (· rfl); (· (go_simp; done)); simp only [Act.put, List.setIfInBounds_toArray, List.set_cons_zero, List.set_cons_succ])))
                  refine canE ?_
                  go_wp2
                  go_meet
                  exact ⟨rfl, HX⟩
                case rest =>
                  obtain ⟨rfl, hcut⟩ := hcut
                  rename World => wG
                  replace HX := hcut
                  clear hcut HXB HYB HSS HZ HXD HQ1 HQ2
                  clear ca0 ca1 ca2 ca3 ca4 ca5 ca6 cb0 cb1 cb2 cb3 cb4 cb5 cb6 cc0 cc1 cc2 cc3 cc4 cc5 cc6
                  have ca0 := HX.out.a.cell 0
                  have ca1 := HX.out.a.cell 1
                  have ca2 := HX.out.a.cell 2
                  have ca3 := HX.out.a.cell 3
                  have ca4 := HX.out.a.cell 4
                  have ca5 := HX.out.a.cell 5
                  have ca6 := HX.out.a.cell 6
                  simp only [List.getElem?_toArray, List.getElem?_cons_zero, List.getElem?_cons_succ] at ca0 ca1 ca2 ca3 ca4 ca5 ca6
                  have cb0 := HX.out.b.cell 0
                  have cb1 := HX.out.b.cell 1
                  have cb2 := HX.out.b.cell 2
                  have cb3 := HX.out.b.cell 3
                  have cb4 := HX.out.b.cell 4
                  have cb5 := HX.out.b.cell 5
                  have cb6 := HX.out.b.cell 6
                  simp only [List.getElem?_toArray, List.getElem?_cons_zero, List.getElem?_cons_succ] at cb0 cb1 cb2 cb3 cb4 cb5 cb6
                  have cc0 := HX.out.c.cell 0
                  have cc1 := HX.out.c.cell 1
                  have cc2 := HX.out.c.cell 2
                  have cc3 := HX.out.c.cell 3
                  have cc4 := HX.out.c.cell 4
                  have cc5 := HX.out.c.cell 5
                  have cc6 := HX.out.c.cell 6
                  simp only [List.getElem?_toArray, List.getElem?_cons_zero, List.getElem?_cons_succ] at cc0 cc1 cc2 cc3 cc4 cc5 cc6
                  go_wp2_with fail
                  go_at_call 25
                  refine (dapply_any wG a _ (HA.out.kept HX.out.chg (fun _ _ => id)) (by omega) (by omega) _ d (HD.out.kept HX.out.chg) (by omega) (HT.out.kept HX.out.chg)).mono ?_
                  rintro e wH ⟨hck, hap⟩
                  cases hap with
                  | range h he => exfalso; rw [HM1.out] at h; cases h
                  | none h hq he =>
                    subst he
                    clear h hq
                    replace HX := Lib.hid (HX.out.kept hck)
                    clear hck
                    clear ca0 ca1 ca2 ca3 ca4 ca5 ca6 cb0 cb1 cb2 cb3 cb4 cb5 cb6 cc0 cc1 cc2 cc3 cc4 cc5 cc6
                    have ca0 := HX.out.a.cell 0
                    have ca1 := HX.out.a.cell 1
                    have ca2 := HX.out.a.cell 2
                    have ca3 := HX.out.a.cell 3
                    have ca4 := HX.out.a.cell 4
                    have ca5 := HX.out.a.cell 5
                    have ca6 := HX.out.a.cell 6
                    simp only [List.getElem?_toArray, List.getElem?_cons_zero, List.getElem?_cons_succ] at ca0 ca1 ca2 ca3 ca4 ca5 ca6
                    have cb0 := HX.out.b.cell 0
                    have cb1 := HX.out.b.cell 1
                    have cb2 := HX.out.b.cell 2
                    have cb3 := HX.out.b.cell 3
                    have cb4 := HX.out.b.cell 4
                    have cb5 := HX.out.b.cell 5
                    have cb6 := HX.out.b.cell 6
                    simp only [List.getElem?_toArray, List.getElem?_cons_zero, List.getElem?_cons_succ] at cb0 cb1 cb2 cb3 cb4 cb5 cb6
                    have cc0 := HX.out.c.cell 0
                    have cc1 := HX.out.c.cell 1
                    have cc2 := HX.out.c.cell 2
                    have cc3 := HX.out.c.cell 3
                    have cc4 := HX.out.c.cell 4
                    have cc5 := HX.out.c.cell 5
                    have cc6 := HX.out.c.cell 6
                    simp only [List.getElem?_toArray, List.getElem?_cons_zero, List.getElem?_cons_succ] at cc0 cc1 cc2 cc3 cc4 cc5 cc6
                    go_upto_region 11 with (fail)
                    obtain ⟨wI, hw⟩ : ∃ W, wH.alloc (.cells zscr 26) = W := ⟨_, rfl⟩
                    have hck : Chg wH wI nob := by rw [← hw]; exact (Chg.refl wH nob).alloc _
                    have HZ : Hid (Blk wI wH.heap.size 26 zscr) := Lib.hid (by rw [← hw]; exact Blk.new wH _ _)
                    have hw' := hw
                    simp only [zscr] at hw'
                    rw [hw']
                    clear hw hw'
                    obtain ⟨iz, hiz⟩ : ∃ i, wH.heap.size = i := ⟨_, rfl⟩
                    rw [hiz] at HZ ⊢
                    clear hiz
                    replace HX := Lib.hid (HX.out.kept hck)
                    clear hck
                    clear ca0 ca1 ca2 ca3 ca4 ca5 ca6 cb0 cb1 cb2 cb3 cb4 cb5 cb6 cc0 cc1 cc2 cc3 cc4 cc5 cc6
                    have ca0 := HX.out.a.cell 0
                    have ca1 := HX.out.a.cell 1
                    have ca2 := HX.out.a.cell 2
                    have ca3 := HX.out.a.cell 3
                    have ca4 := HX.out.a.cell 4
                    have ca5 := HX.out.a.cell 5
                    have ca6 := HX.out.a.cell 6
                    simp only [List.getElem?_toArray, List.getElem?_cons_zero, List.getElem?_cons_succ] at ca0 ca1 ca2 ca3 ca4 ca5 ca6
                    have cb0 := HX.out.b.cell 0
                    have cb1 := HX.out.b.cell 1
                    have cb2 := HX.out.b.cell 2
                    have cb3 := HX.out.b.cell 3
                    have cb4 := HX.out.b.cell 4
                    have cb5 := HX.out.b.cell 5
                    have cb6 := HX.out.b.cell 6
                    simp only [List.getElem?_toArray, List.getElem?_cons_zero, List.getElem?_cons_succ] at cb0 cb1 cb2 cb3 cb4 cb5 cb6
                    have cc0 := HX.out.c.cell 0
                    have cc1 := HX.out.c.cell 1
                    have cc2 := HX.out.c.cell 2
                    have cc3 := HX.out.c.cell 3
                    have cc4 := HX.out.c.cell 4
                    have cc5 := HX.out.c.cell 5
                    have cc6 := HX.out.c.cell 6
                    simp only [List.getElem?_toArray, List.getElem?_cons_zero, List.getElem?_cons_succ] at cc0 cc1 cc2 cc3 cc4 cc5 cc6
                    go_wp2_with fail
                    go_at_call 23
                    refine (dfirst_any wI (HT.out.kept HX.out.chg)).mono ?_
                    rintro e x_ ⟨rfl, hck⟩
                    have z2 := (HZ.out.kept hck id).cell 2
                    simp only [List.getElem?_toArray, List.getElem?_cons_zero, List.getElem?_cons_succ] at z2
                    replace HX := Lib.hid (HX.out.kept hck)
                    clear hck
                    go_wp2
                    go_ret
                    exact ⟨rfl, HX.out.chg⟩
                  | some S sa sn h hq he hcs =>
                    subst he
                    obtain ⟨hSm, hSd⟩ := applyQ_back hq
                    have HSM := Lib.hid hSm
                    have HSD := Lib.hid hSd
                    have hSl := Sc.may_len hSm
                    clear h hq hSm hSd
                    replace HX := Lib.hid (HX.out.kept hck)
                    clear hck
                    clear ca0 ca1 ca2 ca3 ca4 ca5 ca6 cb0 cb1 cb2 cb3 cb4 cb5 cb6 cc0 cc1 cc2 cc3 cc4 cc5 cc6
                    have ca0 := HX.out.a.cell 0
                    have ca1 := HX.out.a.cell 1
                    have ca2 := HX.out.a.cell 2
                    have ca3 := HX.out.a.cell 3
                    have ca4 := HX.out.a.cell 4
                    have ca5 := HX.out.a.cell 5
                    have ca6 := HX.out.a.cell 6
                    simp only [List.getElem?_toArray, List.getElem?_cons_zero, List.getElem?_cons_succ] at ca0 ca1 ca2 ca3 ca4 ca5 ca6
                    have cb0 := HX.out.b.cell 0
                    have cb1 := HX.out.b.cell 1
                    have cb2 := HX.out.b.cell 2
                    have cb3 := HX.out.b.cell 3
                    have cb4 := HX.out.b.cell 4
                    have cb5 := HX.out.b.cell 5
                    have cb6 := HX.out.b.cell 6
                    simp only [List.getElem?_toArray, List.getElem?_cons_zero, List.getElem?_cons_succ] at cb0 cb1 cb2 cb3 cb4 cb5 cb6
                    have cc0 := HX.out.c.cell 0
                    have cc1 := HX.out.c.cell 1
                    have cc2 := HX.out.c.cell 2
                    have cc3 := HX.out.c.cell 3
                    have cc4 := HX.out.c.cell 4
                    have cc5 := HX.out.c.cell 5
                    have cc6 := HX.out.c.cell 6
                    simp only [List.getElem?_toArray, List.getElem?_cons_zero, List.getElem?_cons_succ] at cc0 cc1 cc2 cc3 cc4 cc5 cc6
                    go_upto_region 11 with (fail)
                    obtain ⟨wI, hw⟩ : ∃ W, wH.alloc (.cells (scL S (.slice sa S.l.length sn)) 26) = W := ⟨_, rfl⟩
                    have hck : Chg wH wI nob := by rw [← hw]; exact (Chg.refl wH nob).alloc _
                    have HZ : Hid (Blk wI wH.heap.size 26 (scL S (.slice sa S.l.length sn))) := Lib.hid (by rw [← hw]; exact Blk.new wH _ _)
                    rw [hw]
                    clear hw
                    obtain ⟨iz, hiz⟩ : ∃ i, wH.heap.size = i := ⟨_, rfl⟩
                    rw [hiz] at HZ ⊢
                    clear hiz
                    have HSS := Lib.hid (hcs.kept hck)
                    clear hcs
                    replace HX := Lib.hid (HX.out.kept hck)
                    clear hck
                    clear ca0 ca1 ca2 ca3 ca4 ca5 ca6 cb0 cb1 cb2 cb3 cb4 cb5 cb6 cc0 cc1 cc2 cc3 cc4 cc5 cc6
                    have ca0 := HX.out.a.cell 0
                    have ca1 := HX.out.a.cell 1
                    have ca2 := HX.out.a.cell 2
                    have ca3 := HX.out.a.cell 3
                    have ca4 := HX.out.a.cell 4
                    have ca5 := HX.out.a.cell 5
                    have ca6 := HX.out.a.cell 6
                    simp only [List.getElem?_toArray, List.getElem?_cons_zero, List.getElem?_cons_succ] at ca0 ca1 ca2 ca3 ca4 ca5 ca6
                    have cb0 := HX.out.b.cell 0
                    have cb1 := HX.out.b.cell 1
                    have cb2 := HX.out.b.cell 2
                    have cb3 := HX.out.b.cell 3
                    have cb4 := HX.out.b.cell 4
                    have cb5 := HX.out.b.cell 5
                    have cb6 := HX.out.b.cell 6
                    simp only [List.getElem?_toArray, List.getElem?_cons_zero, List.getElem?_cons_succ] at cb0 cb1 cb2 cb3 cb4 cb5 cb6
                    have cc0 := HX.out.c.cell 0
                    have cc1 := HX.out.c.cell 1
                    have cc2 := HX.out.c.cell 2
                    have cc3 := HX.out.c.cell 3
                    have cc4 := HX.out.c.cell 4
                    have cc5 := HX.out.c.cell 5
                    have cc6 := HX.out.c.cell 6
                    simp only [List.getElem?_toArray, List.getElem?_cons_zero, List.getElem?_cons_succ] at cc0 cc1 cc2 cc3 cc4 cc5 cc6
                    have cz0 := HZ.out.cell 0
                    have cz1 := HZ.out.cell 1
                    have cz2 := HZ.out.cell 2
                    have cz3 := HZ.out.cell 3
                    have cz4 := HZ.out.cell 4
                    have cz5 := HZ.out.cell 5
                    have cz6 := HZ.out.cell 6
                    simp only [List.getElem?_toArray, List.getElem?_cons_zero, List.getElem?_cons_succ] at cz0 cz1 cz2 cz3 cz4 cz5 cz6
                    have HMK := Lib.hid (dmake_ok wI a S _ _ (HA.out.kept HX.out.chg (fun _ _ => id)) HSS.out.1.rd HM1.out HSM.out (HT.out.kept HX.out.chg))
                    rw [HSD.out] at HMK
                    go_wp2_with fail
                    go_at_call 24
                    refine HMK.out.mono ?_
                    rintro e wJ ⟨am, nm, rfl, hby, hck⟩
                    have HMB := Lib.hid hby
                    replace HZ := Lib.hid (HZ.out.kept hck id)
                    replace HSS := Lib.hid (HSS.out.kept hck)
                    clear hby HMK cz0 cz1 cz2 cz3 cz4 cz5 cz6
                    replace HX := Lib.hid (HX.out.kept hck)
                    clear hck
                    clear ca0 ca1 ca2 ca3 ca4 ca5 ca6 cb0 cb1 cb2 cb3 cb4 cb5 cb6 cc0 cc1 cc2 cc3 cc4 cc5 cc6
                    have ca0 := HX.out.a.cell 0
                    have ca1 := HX.out.a.cell 1
                    have ca2 := HX.out.a.cell 2
                    have ca3 := HX.out.a.cell 3
                    have ca4 := HX.out.a.cell 4
                    have ca5 := HX.out.a.cell 5
                    have ca6 := HX.out.a.cell 6
                    simp only [List.getElem?_toArray, List.getElem?_cons_zero, List.getElem?_cons_succ] at ca0 ca1 ca2 ca3 ca4 ca5 ca6
                    have cb0 := HX.out.b.cell 0
                    have cb1 := HX.out.b.cell 1
                    have cb2 := HX.out.b.cell 2
                    have cb3 := HX.out.b.cell 3
                    have cb4 := HX.out.b.cell 4
                    have cb5 := HX.out.b.cell 5
                    have cb6 := HX.out.b.cell 6
                    simp only [List.getElem?_toArray, List.getElem?_cons_zero, List.getElem?_cons_succ] at cb0 cb1 cb2 cb3 cb4 cb5 cb6
                    have cc0 := HX.out.c.cell 0
                    have cc1 := HX.out.c.cell 1
                    have cc2 := HX.out.c.cell 2
                    have cc3 := HX.out.c.cell 3
                    have cc4 := HX.out.c.cell 4
                    have cc5 := HX.out.c.cell 5
                    have cc6 := HX.out.c.cell 6
                    simp only [List.getElem?_toArray, List.getElem?_cons_zero, List.getElem?_cons_succ] at cc0 cc1 cc2 cc3 cc4 cc5 cc6
                    go_wp2_with fail
                    go_at_call 23
                    refine (dfirst_any wJ (HT.out.kept HX.out.chg)).mono ?_
                    rintro e wK ⟨rfl, hck⟩
                    replace HMB := Lib.hid (HMB.out.kept hck)
                    replace HZ := Lib.hid (HZ.out.kept hck id)
                    replace HSS := Lib.hid (HSS.out.kept hck)
                    replace HX := Lib.hid (HX.out.kept hck)
                    clear hck
                    clear ca0 ca1 ca2 ca3 ca4 ca5 ca6 cb0 cb1 cb2 cb3 cb4 cb5 cb6 cc0 cc1 cc2 cc3 cc4 cc5 cc6
                    have ca0 := HX.out.a.cell 0
                    have ca1 := HX.out.a.cell 1
                    have ca2 := HX.out.a.cell 2
                    have ca3 := HX.out.a.cell 3
                    have ca4 := HX.out.a.cell 4
                    have ca5 := HX.out.a.cell 5
                    have ca6 := HX.out.a.cell 6
                    simp only [List.getElem?_toArray, List.getElem?_cons_zero, List.getElem?_cons_succ] at ca0 ca1 ca2 ca3 ca4 ca5 ca6
                    have cb0 := HX.out.b.cell 0
                    have cb1 := HX.out.b.cell 1
                    have cb2 := HX.out.b.cell 2
                    have cb3 := HX.out.b.cell 3
                    have cb4 := HX.out.b.cell 4
                    have cb5 := HX.out.b.cell 5
                    have cb6 := HX.out.b.cell 6
                    simp only [List.getElem?_toArray, List.getElem?_cons_zero, List.getElem?_cons_succ] at cb0 cb1 cb2 cb3 cb4 cb5 cb6
                    have cc0 := HX.out.c.cell 0
                    have cc1 := HX.out.c.cell 1
                    have cc2 := HX.out.c.cell 2
                    have cc3 := HX.out.c.cell 3
                    have cc4 := HX.out.c.cell 4
                    have cc5 := HX.out.c.cell 5
                    have cc6 := HX.out.c.cell 6
                    simp only [List.getElem?_toArray, List.getElem?_cons_zero, List.getElem?_cons_succ] at cc0 cc1 cc2 cc3 cc4 cc5 cc6
                    go_wp2_with fail
                    go_at_call 22
                    refine (bytes_by HMB.out (HD.out.kept HX.out.chg)).mono ?_
                    rw [decide_eq_true (rfl : d = d)]
                    rintro e xx ⟨rfl, rfl⟩
                    have cz0 := HZ.out.cell 0
                    have cz1 := HZ.out.cell 1
                    have cz2 := HZ.out.cell 2
                    have cz3 := HZ.out.cell 3
                    have cz4 := HZ.out.cell 4
                    have cz5 := HZ.out.cell 5
                    have cz6 := HZ.out.cell 6
                    simp only [List.getElem?_toArray, List.getElem?_cons_zero, List.getElem?_cons_succ] at cz0 cz1 cz2 cz3 cz4 cz5 cz6
                    have HMY := Lib.hid (may_sc wK S _ HSS.out.1.rd (by omega) (by omega) (HT.out.kept HX.out.chg))
                    rw [HSM.out] at HMY
                    go_wp2_with fail
                    go_at_call 20
                    refine HMY.out.mono ?_
                    rintro e wL ⟨rfl, hck⟩
                    replace HX := Lib.hid (HX.out.kept hck)
                    clear hck
                    go_wp2
                    go_ret
                    exact ⟨rfl, HX.out.chg⟩
        · have hdi : (3000 : Int) < (d.length : Int) := by omega
          go_wp2_with fail
          go_at_call 23
          refine (dfirst_any w5 (HT.out.kept HX.out.chg)).mono ?_
          rintro e x_ ⟨rfl, hck⟩
          replace HX := Lib.hid (HX.out.kept hck)
          clear hck
          go_wp2
          go_ret
          exact ⟨rfl, HX.out.chg⟩
theorem DiffBack_walk (w : World) (r0 c0 y0 x0 : Int) (h0 : Bool) (t0 : ByteArray) (va0 : Value) (l0 : List Ce) (hr0 : Rd w 5 va0 l0.length (cellsV l0)) (nk0 : NilOk va0) (wf0 : ∀ c ∈ l0, Ce.wf c) (w0 : ((-9223372036854775808 ≤ r0 ∧ r0 ≤ 9223372036854775807) ∧ (-9223372036854775808 ≤ c0 ∧ c0 ≤ 9223372036854775807) ∧ (-9223372036854775808 ≤ y0 ∧ y0 ≤ 9223372036854775807) ∧ -9223372036854775808 ≤ x0 ∧ x0 ≤ 9223372036854775807))
    (r1 c1 y1 x1 : Int) (h1 : Bool) (t1 : ByteArray) (va1 : Value) (l1 : List Ce) (hr1 : Rd w 5 va1 l1.length (cellsV l1)) (nk1 : NilOk va1) (wf1 : ∀ c ∈ l1, Ce.wf c) (w1 : ((-9223372036854775808 ≤ r1 ∧ r1 ≤ 9223372036854775807) ∧ (-9223372036854775808 ≤ c1 ∧ c1 ≤ 9223372036854775807) ∧ (-9223372036854775808 ≤ y1 ∧ y1 ≤ 9223372036854775807) ∧ -9223372036854775808 ≤ x1 ∧ x1 ≤ 9223372036854775807))
    (r2 c2 y2 x2 : Int) (h2 : Bool) (t2 : ByteArray) (va2 : Value) (l2 : List Ce) (hr2 : Rd w 5 va2 l2.length (cellsV l2)) (nk2 : NilOk va2) (wf2 : ∀ c ∈ l2, Ce.wf c) (w2 : ((-9223372036854775808 ≤ r2 ∧ r2 ≤ 9223372036854775807) ∧ (-9223372036854775808 ≤ c2 ∧ c2 ≤ 9223372036854775807) ∧ (-9223372036854775808 ≤ y2 ∧ y2 ≤ 9223372036854775807) ∧ -9223372036854775808 ≤ x2 ∧ x2 ≤ 9223372036854775807))
    (a3 : Option Addr) (len3 cap3 : Nat) (l3 : List Int) (hr3 : Rd w 1 (.slice a3 len3 cap3) len3 (l3.map (Value.int .u8))) (hl3 : l3.length = len3) (y3 : len3 * 1 ≤ 140737488351232) (w3 : ∀ x ∈ l3, 0 ≤ x ∧ x ≤ 255) (nk3 : NilOk (.slice a3 len3 cap3)) (ht : Tab w) :
    Calls Tryd.prog 5 #[scV r0 c0 va0 y0 x0 h0 t0, scV r1 c1 va1 y1 x1 h1 t1, scV r2 c2 va2 y2 x2 h2 t2, .slice a3 len3 cap3] w fun e w' => e = .returned (.bool true) ∧ Chg w w' nob := by
  subst hl3
  exact DiffBack_sc w ⟨r0, c0, l0, y0, x0, h0, t0⟩ ⟨r1, c1, l1, y1, x1, h1, t1⟩ ⟨r2, c2, l2, y2, x2, h2, t2⟩ va0 va1 va2 hr0 hr1 hr2 a3 cap3 l3 ⟨hr3, nk3, w3⟩ ht
end Go.Proofs.YtiojhfaeeelfeaaDoor
