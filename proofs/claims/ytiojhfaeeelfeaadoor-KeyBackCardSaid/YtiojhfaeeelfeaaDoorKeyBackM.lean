/-
  KeyBack: there and back; what is read is written as the same bytes; two screens are one text just if they are the same; cut off there is none.
-/
import Derived.Test.YtiojhfaeeelfeaaDoorKeyBack0M
import Derived.Test.YtiojhfaeeelfeaaDoorMg22
namespace Go.Proofs.YtiojhfaeeelfeaaDoor
open Go.RowKit
set_option linter.unusedVariables false
set_option linter.unusedSimpArgs false

/-- Two screens in their boxes, their texts. -/
structure KBs (w wx : World) (i4 i5 : Nat) (A1 A2 : Array Value) (vx vy : Value) (X Y : List Int) : Prop where
  chg : Chg w wx nob
  b4 : Blk wx i4 26 A1
  b5 : Blk wx i5 26 A2
  x : By wx vx X
  y : By wx vy Y
theorem KBs.kept {w wx wy : World} {i4 i5 : Nat} {A1 A2 : Array Value} {vx vy : Value} {X Y : List Int} (h : KBs w wx i4 i5 A1 A2 vx vy X Y) (hc : Chg wx wy nob) : KBs w wy i4 i5 A1 A2 vx vy X Y :=
  ⟨h.chg.trans hc (fun _ _ x => x), h.b4.kept hc id, h.b5.kept hc id, h.x.kept hc, h.y.kept hc⟩
theorem keyc_len (s : Sc) : s.key.length ≤ 60 + s.t.size + 60 * s.l.length := by
  have h1 := varsL_len _ (headN_lt s.r s.c s.y s.x s.h s.t)
  have h2 := numsS_len s.t
  have h3 := runsL_len _ s.l (Nat.le_refl _)
  rw [show (headN s.r s.c s.y s.x s.h s.t).length = 6 from rfl] at h1
  unfold Sc.key keyL
  simp only [List.length_append]
  omega
attribute [local go_sem ↓] run_cut_h
theorem encE_b (m : Bool) : (encE m == 0) = m := by cases m <;> rfl

theorem kdec_key (w : World) (va : Value) (r c : Int) (l : List Ce) (y x : Int) (h : Bool) (tt : ByteArray) (B : List Int) (hm : (⟨r, c, l, y, x, h, tt⟩ : Sc).may = true) (hB : B = (⟨r, c, l, y, x, h, tt⟩ : Sc).key) (hb : By w va B) (hl : B.length ≤ 1000000) (ht : Tab w) :
    Calls Tryd.prog 9 #[va] w fun e' w' => ∃ a n, e' = .returned (.tuple #[scV r c (.slice a l.length n) y x h tt, .int .i64 0]) ∧ Cs w w' (.slice a l.length n) l ∧ Chg w w' nob := by
  refine (kdec_any w va B hb hl ht).mono ?_
  rintro e w' ⟨hc, ⟨q, vq, hd, rfl, hcs⟩ | ⟨hd, rfl⟩⟩
  · rw [hB, decQ_there hm] at hd
    cases hd
    obtain ⟨a, n, rfl, _⟩ := hcs.form
    exact ⟨a, n, rfl, hcs, hc⟩
  · rw [hB, decQ_there hm] at hd
    cases hd
theorem kdec_cut (w : World) (va : Value) (s : Sc) (B : List Int) (hm : s.may = true) (hB : B = s.key) {k : Nat} (hk : k < B.length) (hb : By w va (B.take k)) (hl : B.length ≤ 1000000) (ht : Tab w) :
    Calls Tryd.prog 9 #[va] w fun e' w' => e' = .returned (.tuple #[scV 0 0 (.slice none 0 0) 0 0 false ⟨#[]⟩, .int .i64 2]) ∧ Chg w w' nob := by
  refine (kdec_any w va (B.take k) hb (by simp; omega) ht).mono ?_
  rintro e w' ⟨hc, ⟨q, vq, hd, rfl, hcs⟩ | ⟨hd, rfl⟩⟩
  · rw [hB] at hd hk
    rw [key_cut hm hk] at hd
    cases hd
  · exact ⟨rfl, hc⟩
theorem same_lit (w : World) (va vb : Value) (r c : Int) (l : List Ce) (y x : Int) (h : Bool) (tt : ByteArray) (ha : Rd w 5 va l.length (cellsV l)) (hb : Rd w 5 vb l.length (cellsV l)) (hl : l.length ≤ 1000000) :
    Calls Tryd.prog 21 #[scV r c va y x h tt, scV r c vb y x h tt] w fun e w' => e = .returned (.bool true) ∧ Chg w w' nob := by
  refine (same_any w ⟨r, c, l, y, x, h, tt⟩ ⟨r, c, l, y, x, h, tt⟩ va vb ha hb hl).mono ?_
  rintro e w' ⟨rfl, hc⟩
  exact ⟨by simp, hc⟩
set_option maxRecDepth 100000 in
set_option maxHeartbeats 4000000 in
theorem KeyBack_sc (w : World) (s t : Sc) (va vb : Value) (ha : Rd w 5 va s.l.length (cellsV s.l)) (hb : Rd w 5 vb t.l.length (cellsV t.l)) (a2 : Option Addr) (cap2 : Nat) (l2 : List Int) (h2 : By w (.slice a2 l2.length cap2) l2) (a3 : Int) (w3 : -9223372036854775808 ≤ a3 ∧ a3 ≤ 9223372036854775807) (ht : Tab w) :
    Calls Tryd.prog 4 #[scS s va, scS t vb, .slice a2 l2.length cap2, .int .i64 a3] w fun e w' => e = .returned (.bool true) ∧ Chg w w' nob := by
  have HT := Lib.hid ht
  have K2 := Lib.hid h2
  obtain ⟨x1, x2⟩ := w3
  obtain ⟨r, c, l, y, x, h, tt⟩ := s
  obtain ⟨r', c', l', y', x', h', tt'⟩ := t
  simp only at ha hb ⊢
  obtain ⟨a1, c1, rfl, _⟩ := ha.form
  obtain ⟨a2', c2', rfl, _⟩ := hb.form
  have HA := Lib.hid ha
  have HB := Lib.hid hb
  clear ha hb ht h2
  go_enter Tryd.func4, Tryd.ntmps4
  go_upto_region 1 with (fail)
  obtain ⟨w1, hw⟩ : ∃ W, (w.alloc (.cells (scA r c (.slice a1 l.length c1) y x h tt) 26)).alloc (.cells (scA r' c' (.slice a2' l'.length c2') y' x' h' tt') 26) = W := ⟨_, rfl⟩
  have HC : Hid (Chg w w1 nob) := Lib.hid (by rw [← hw]; exact ((Chg.refl w nob).alloc _).alloc _)
  have HS : Hid (Blk w1 w.heap.size 26 (scA r c (.slice a1 l.length c1) y x h tt)) := Lib.hid (by rw [← hw]; exact (Blk.new w _ _).alloc _)
  have HU : Hid (Blk w1 (w.heap.size + 1) 26 (scA r' c' (.slice a2' l'.length c2') y' x' h' tt')) := Lib.hid (by rw [← hw]; exact Blk.new2' w _ _ _)
  rw [hw]
  clear hw
  obtain ⟨i4, hi4⟩ : ∃ i, w.heap.size = i := ⟨_, rfl⟩
  rw [hi4] at HS HU ⊢
  have HI := Lib.hid hi4
  clear hi4
  obtain ⟨i5, hi5⟩ : ∃ i, i4 + 1 = i := ⟨_, rfl⟩
  rw [hi5] at HU ⊢
  clear hi5
  have ca0 := HS.out.cell 0
  have ca1 := HS.out.cell 1
  have ca2 := HS.out.cell 2
  have ca3 := HS.out.cell 3
  have ca4 := HS.out.cell 4
  have ca5 := HS.out.cell 5
  have ca6 := HS.out.cell 6
  simp only [List.getElem?_toArray, List.getElem?_cons_zero, List.getElem?_cons_succ] at ca0 ca1 ca2 ca3 ca4 ca5 ca6
  have cb0 := HU.out.cell 0
  have cb1 := HU.out.cell 1
  have cb2 := HU.out.cell 2
  have cb3 := HU.out.cell 3
  have cb4 := HU.out.cell 4
  have cb5 := HU.out.cell 5
  have cb6 := HU.out.cell 6
  simp only [List.getElem?_toArray, List.getElem?_cons_zero, List.getElem?_cons_succ] at cb0 cb1 cb2 cb3 cb4 cb5 cb6
  go_wp2_with fail
  go_at_call 8
  refine (kfirst_any w1 (HT.out.kept HC.out)).mono ?_
  rintro e w2 ⟨rfl, hck⟩
  replace HC := Lib.hid (HC.out.trans hck (fun _ _ h => h))
  replace HS := Lib.hid (HS.out.kept hck (fun h => h))
  replace HU := Lib.hid (HU.out.kept hck (fun h => h))
  clear hck
  clear ca0 ca1 ca2 ca3 ca4 ca5 ca6 cb0 cb1 cb2 cb3 cb4 cb5 cb6
  have ca0 := HS.out.cell 0
  have ca1 := HS.out.cell 1
  have ca2 := HS.out.cell 2
  have ca3 := HS.out.cell 3
  have ca4 := HS.out.cell 4
  have ca5 := HS.out.cell 5
  have ca6 := HS.out.cell 6
  simp only [List.getElem?_toArray, List.getElem?_cons_zero, List.getElem?_cons_succ] at ca0 ca1 ca2 ca3 ca4 ca5 ca6
  have cb0 := HU.out.cell 0
  have cb1 := HU.out.cell 1
  have cb2 := HU.out.cell 2
  have cb3 := HU.out.cell 3
  have cb4 := HU.out.cell 4
  have cb5 := HU.out.cell 5
  have cb6 := HU.out.cell 6
  simp only [List.getElem?_toArray, List.getElem?_cons_zero, List.getElem?_cons_succ] at cb0 cb1 cb2 cb3 cb4 cb5 cb6
  obtain ⟨f1, hf1⟩ : ∃ b, (decide (l.length ≤ 3000) && decide (tt.size ≤ 3000)) = b := ⟨_, rfl⟩
  obtain ⟨f2, hf2⟩ : ∃ b, (decide (l'.length ≤ 3000) && decide (tt'.size ≤ 3000)) = b := ⟨_, rfl⟩
  go_wp2_with fail
  go_at_call 18
  refine (few_any w2 r c y x h tt _ l.length ⟨_, _, rfl⟩).mono ?_
  rw [hf1]
  rintro e w3 ⟨rfl, hck⟩
  replace HC := Lib.hid (HC.out.trans hck (fun _ _ h => h))
  replace HS := Lib.hid (HS.out.kept hck (fun h => h))
  replace HU := Lib.hid (HU.out.kept hck (fun h => h))
  clear hck
  clear ca0 ca1 ca2 ca3 ca4 ca5 ca6 cb0 cb1 cb2 cb3 cb4 cb5 cb6
  have ca0 := HS.out.cell 0
  have ca1 := HS.out.cell 1
  have ca2 := HS.out.cell 2
  have ca3 := HS.out.cell 3
  have ca4 := HS.out.cell 4
  have ca5 := HS.out.cell 5
  have ca6 := HS.out.cell 6
  simp only [List.getElem?_toArray, List.getElem?_cons_zero, List.getElem?_cons_succ] at ca0 ca1 ca2 ca3 ca4 ca5 ca6
  have cb0 := HU.out.cell 0
  have cb1 := HU.out.cell 1
  have cb2 := HU.out.cell 2
  have cb3 := HU.out.cell 3
  have cb4 := HU.out.cell 4
  have cb5 := HU.out.cell 5
  have cb6 := HU.out.cell 6
  simp only [List.getElem?_toArray, List.getElem?_cons_zero, List.getElem?_cons_succ] at cb0 cb1 cb2 cb3 cb4 cb5 cb6
  cases f1 with
  | false =>
    go_wp2_with fail
    go_at_call 8
    refine (kfirst_any w3 (HT.out.kept HC.out)).mono ?_
    rintro e x_ ⟨rfl, hx⟩
    have HXX := Lib.hid (Chg.trans (HC.out) hx (fun _ _ h => h))
    have HX0 := Lib.hid hx
    clear hx
    go_wp2
    go_ret
    exact ⟨rfl, HXX.out⟩
  | true =>
    go_wp2_with fail
    go_at_call 18
    refine (few_any w3 r' c' y' x' h' tt' _ l'.length ⟨_, _, rfl⟩).mono ?_
    rw [hf2]
    rintro e w4 ⟨rfl, hck⟩
    replace HC := Lib.hid (HC.out.trans hck (fun _ _ h => h))
    replace HS := Lib.hid (HS.out.kept hck (fun h => h))
    replace HU := Lib.hid (HU.out.kept hck (fun h => h))
    clear hck
    clear ca0 ca1 ca2 ca3 ca4 ca5 ca6 cb0 cb1 cb2 cb3 cb4 cb5 cb6
    have ca0 := HS.out.cell 0
    have ca1 := HS.out.cell 1
    have ca2 := HS.out.cell 2
    have ca3 := HS.out.cell 3
    have ca4 := HS.out.cell 4
    have ca5 := HS.out.cell 5
    have ca6 := HS.out.cell 6
    simp only [List.getElem?_toArray, List.getElem?_cons_zero, List.getElem?_cons_succ] at ca0 ca1 ca2 ca3 ca4 ca5 ca6
    have cb0 := HU.out.cell 0
    have cb1 := HU.out.cell 1
    have cb2 := HU.out.cell 2
    have cb3 := HU.out.cell 3
    have cb4 := HU.out.cell 4
    have cb5 := HU.out.cell 5
    have cb6 := HU.out.cell 6
    simp only [List.getElem?_toArray, List.getElem?_cons_zero, List.getElem?_cons_succ] at cb0 cb1 cb2 cb3 cb4 cb5 cb6
    cases f2 with
    | false =>
      go_wp2_with fail
      go_at_call 8
      refine (kfirst_any w4 (HT.out.kept HC.out)).mono ?_
      rintro e x_ ⟨rfl, hx⟩
      have HXX := Lib.hid (Chg.trans (HC.out) hx (fun _ _ h => h))
      have HX0 := Lib.hid hx
      clear hx
      go_wp2
      go_ret
      exact ⟨rfl, HXX.out⟩
    | true =>
      simp only [Bool.and_eq_true, decide_eq_true_eq] at hf1 hf2
      obtain ⟨n1, n2⟩ := hf1
      obtain ⟨n3, n4⟩ := hf2
      by_cases hin : l2.length ≤ 3000 ∧ 0 ≤ a3
      · obtain ⟨n5, n6⟩ := hin
        have n5i : (l2.length : Int) ≤ 3000 := by omega
        obtain ⟨m1, hm1⟩ : ∃ m, (⟨r, c, l, y, x, h, tt⟩ : Sc).may = m := ⟨_, rfl⟩
        obtain ⟨m2, hm2⟩ : ∃ m, (⟨r', c', l', y', x', h', tt'⟩ : Sc).may = m := ⟨_, rfl⟩
        have HE1 := Lib.hid (fun w' (hc : Chg w w' nob) => kenc_sc w' ⟨r, c, l, y, x, h, tt⟩ (.slice a1 l.length c1) (HA.out.kept hc (fun _ _ => id)) (by (show l.length ≤ _); omega) (by (show tt.size ≤ _); omega) (HT.out.kept hc))
        have HE2 := Lib.hid (fun w' (hc : Chg w w' nob) => kenc_sc w' ⟨r', c', l', y', x', h', tt'⟩ (.slice a2' l'.length c2') (HB.out.kept hc (fun _ _ => id)) (by (show l'.length ≤ _); omega) (by (show tt'.size ≤ _); omega) (HT.out.kept hc))
        have hx0 := keyc_len ⟨r, c, l, y, x, h, tt⟩
        have hy0 := keyc_len ⟨r', c', l', y', x', h', tt'⟩
        simp only at hx0 hy0
        rw [hm1] at HE1
        rw [hm2] at HE2
        obtain ⟨X, hX⟩ : ∃ X, (if m1 = true then (⟨r, c, l, y, x, h, tt⟩ : Sc).key else []) = X := ⟨_, rfl⟩
        obtain ⟨Y, hY⟩ : ∃ Y, (if m2 = true then (⟨r', c', l', y', x', h', tt'⟩ : Sc).key else []) = Y := ⟨_, rfl⟩
        rw [hX] at HE1
        rw [hY] at HE2
        have HX1 : Hid (m1 = true → X = (⟨r, c, l, y, x, h, tt⟩ : Sc).key) := Lib.hid (fun h => by rw [← hX, if_pos h])
        have HY1 : Hid (m2 = true → Y = (⟨r', c', l', y', x', h', tt'⟩ : Sc).key) := Lib.hid (fun h => by rw [← hY, if_pos h])
        have HXB : Hid (∀ x ∈ X, 0 ≤ x ∧ x ≤ 255) := Lib.hid (by rw [← hX]; split; exact key_byte _; intro x hx; cases hx)
        have HYB : Hid (∀ x ∈ Y, 0 ≤ x ∧ x ≤ 255) := Lib.hid (by rw [← hY]; split; exact key_byte _; intro x hx; cases hx)
        have hxl : X.length ≤ 300000 := by rw [← hX]; split; omega; simp
        have hyl : Y.length ≤ 300000 := by rw [← hY]; split; omega; simp
        have HM1 := Lib.hid hm1
        have HM2 := Lib.hid hm2
        clear hm1 hm2 hX hY hx0 hy0
        go_wp2_with fail
        go_at_call 19
        refine (HE1.out w4 HC.out).mono ?_
        rintro e w5 ⟨vx, rfl, hbx⟩
        have hck := hbx.2.1
        have HX : Hid (By w5 vx X) := Lib.hid ⟨hbx.1.rd, hbx.1.nilOk, HXB.out⟩
        clear hbx HE1
        replace HC := Lib.hid (HC.out.trans hck (fun _ _ h => h))
        replace HS := Lib.hid (HS.out.kept hck (fun h => h))
        replace HU := Lib.hid (HU.out.kept hck (fun h => h))
        clear hck
        clear ca0 ca1 ca2 ca3 ca4 ca5 ca6 cb0 cb1 cb2 cb3 cb4 cb5 cb6
        have ca0 := HS.out.cell 0
        have ca1 := HS.out.cell 1
        have ca2 := HS.out.cell 2
        have ca3 := HS.out.cell 3
        have ca4 := HS.out.cell 4
        have ca5 := HS.out.cell 5
        have ca6 := HS.out.cell 6
        simp only [List.getElem?_toArray, List.getElem?_cons_zero, List.getElem?_cons_succ] at ca0 ca1 ca2 ca3 ca4 ca5 ca6
        have cb0 := HU.out.cell 0
        have cb1 := HU.out.cell 1
        have cb2 := HU.out.cell 2
        have cb3 := HU.out.cell 3
        have cb4 := HU.out.cell 4
        have cb5 := HU.out.cell 5
        have cb6 := HU.out.cell 6
        simp only [List.getElem?_toArray, List.getElem?_cons_zero, List.getElem?_cons_succ] at cb0 cb1 cb2 cb3 cb4 cb5 cb6
        go_wp2_with fail
        go_at_call 19
        refine (HE2.out w5 HC.out).mono ?_
        rintro e w6 ⟨vy, rfl, hby⟩
        have hck := hby.2.1
        have HY : Hid (By w6 vy Y) := Lib.hid ⟨hby.1.rd, hby.1.nilOk, HYB.out⟩
        replace HX := Lib.hid (HX.out.kept hck)
        clear hby HE2
        replace HC := Lib.hid (HC.out.trans hck (fun _ _ h => h))
        replace HS := Lib.hid (HS.out.kept hck (fun h => h))
        replace HU := Lib.hid (HU.out.kept hck (fun h => h))
        clear hck
        clear ca0 ca1 ca2 ca3 ca4 ca5 ca6 cb0 cb1 cb2 cb3 cb4 cb5 cb6
        have ca0 := HS.out.cell 0
        have ca1 := HS.out.cell 1
        have ca2 := HS.out.cell 2
        have ca3 := HS.out.cell 3
        have ca4 := HS.out.cell 4
        have ca5 := HS.out.cell 5
        have ca6 := HS.out.cell 6
        simp only [List.getElem?_toArray, List.getElem?_cons_zero, List.getElem?_cons_succ] at ca0 ca1 ca2 ca3 ca4 ca5 ca6
        have cb0 := HU.out.cell 0
        have cb1 := HU.out.cell 1
        have cb2 := HU.out.cell 2
        have cb3 := HU.out.cell 3
        have cb4 := HU.out.cell 4
        have cb5 := HU.out.cell 5
        have cb6 := HU.out.cell 6
        simp only [List.getElem?_toArray, List.getElem?_cons_zero, List.getElem?_cons_succ] at cb0 cb1 cb2 cb3 cb4 cb5 cb6
        have HK : Hid (KBs w w6 i4 i5 (scA r c (.slice a1 l.length c1) y x h tt) (scA r' c' (.slice a2' l'.length c2') y' x' h' tt') vx vy X Y) := Lib.hid ⟨HC.out, HS.out, HU.out, HX.out, HY.out⟩
        clear HC HS HU HX HY
        obtain ⟨ax, cx, rfl, _⟩ := HK.out.x.form
        obtain ⟨ay, cy, rfl, _⟩ := HK.out.y.form
        have HMY := Lib.hid (may_sc w6 ⟨r, c, l, y, x, h, tt⟩ (.slice a1 l.length c1) (HA.out.kept HK.out.chg (fun _ _ => id)) (by (show l.length ≤ _); omega) (by (show tt.size ≤ _); omega) (HT.out.kept HK.out.chg))
        rw [HM1.out] at HMY
        go_wp2_with fail
        go_at_call 20
        refine HMY.out.mono ?_
        rintro e w7 ⟨rfl, hck⟩
        clear HMY
        replace HK := Lib.hid (HK.out.kept hck)
        clear hck
        clear ca0 ca1 ca2 ca3 ca4 ca5 ca6 cb0 cb1 cb2 cb3 cb4 cb5 cb6
        have ca0 := HK.out.b4.cell 0
        have ca1 := HK.out.b4.cell 1
        have ca2 := HK.out.b4.cell 2
        have ca3 := HK.out.b4.cell 3
        have ca4 := HK.out.b4.cell 4
        have ca5 := HK.out.b4.cell 5
        have ca6 := HK.out.b4.cell 6
        simp only [List.getElem?_toArray, List.getElem?_cons_zero, List.getElem?_cons_succ] at ca0 ca1 ca2 ca3 ca4 ca5 ca6
        have cb0 := HK.out.b5.cell 0
        have cb1 := HK.out.b5.cell 1
        have cb2 := HK.out.b5.cell 2
        have cb3 := HK.out.b5.cell 3
        have cb4 := HK.out.b5.cell 4
        have cb5 := HK.out.b5.cell 5
        have cb6 := HK.out.b5.cell 6
        simp only [List.getElem?_toArray, List.getElem?_cons_zero, List.getElem?_cons_succ] at cb0 cb1 cb2 cb3 cb4 cb5 cb6
        have hq1 : (encE m1 == 0) = m1 := encE_b m1
        have hq2 : (encE m2 == 0) = m2 := encE_b m2
        have hq3 : (m1 != m1) = false := bne_self_eq_false m1
        go_upto_if 57 with (fail)
        go_cut [] (fun wx => Hid (KBs w wx i4 i5 (scA r c (.slice a1 l.length c1) y x h tt) (scA r' c' (.slice a2' l'.length c2') y' x' h' tt') (.slice ax X.length cx) (.slice ay Y.length cy) X Y))
        case first =>
          cases m1 with
          | false =>
            go_wp2
            go_meet
            exact HK
          | true =>
            have hx7 : 7 ≤ X.length := by rw [HX1.out (by simp)]; exact key_long HM1.out
            have hx7i : ¬ ((X.length : Int) < 7) := by omega
            obtain ⟨k, hk⟩ : ∃ k : Nat, a3.toNat % X.length = k := ⟨_, rfl⟩
            have hkl : k < X.length := by rw [← hk]; exact Nat.mod_lt _ (by omega)
            have hmod : Int.tmod a3 (X.length : Int) = (k : Int) := by rw [Int.tmod_eq_emod_of_nonneg (by omega), ← hk, Int.natCast_emod, Int.toNat_of_nonneg (by omega)]
            have hkc : (k : Int) ≤ (cx : Int) := by have := HK.out.x.form; obtain ⟨_, _, e, h⟩ := this; cases e; omega
            clear hk
            go_wp2_with fail
            go_at_call 9
            refine (kdec_key w7 _ r c l y x h tt X HM1.out (HX1.out (by simp)) HK.out.x (by omega) (HT.out.kept HK.out.chg)).mono ?_
            rintro e w8 ⟨aq, cq, rfl, hcs, hck⟩
            have HQ := Lib.hid hcs
            clear hcs
            replace HK := Lib.hid (HK.out.kept hck)
            clear hck
            clear ca0 ca1 ca2 ca3 ca4 ca5 ca6 cb0 cb1 cb2 cb3 cb4 cb5 cb6
            have ca0 := HK.out.b4.cell 0
            have ca1 := HK.out.b4.cell 1
            have ca2 := HK.out.b4.cell 2
            have ca3 := HK.out.b4.cell 3
            have ca4 := HK.out.b4.cell 4
            have ca5 := HK.out.b4.cell 5
            have ca6 := HK.out.b4.cell 6
            simp only [List.getElem?_toArray, List.getElem?_cons_zero, List.getElem?_cons_succ] at ca0 ca1 ca2 ca3 ca4 ca5 ca6
            have cb0 := HK.out.b5.cell 0
            have cb1 := HK.out.b5.cell 1
            have cb2 := HK.out.b5.cell 2
            have cb3 := HK.out.b5.cell 3
            have cb4 := HK.out.b5.cell 4
            have cb5 := HK.out.b5.cell 5
            have cb6 := HK.out.b5.cell 6
            simp only [List.getElem?_toArray, List.getElem?_cons_zero, List.getElem?_cons_succ] at cb0 cb1 cb2 cb3 cb4 cb5 cb6
            go_upto_region 11 with (fail)
            obtain ⟨w9, hw9⟩ : ∃ W, w8.alloc (.cells (scA r c (.slice aq l.length cq) y x h tt) 26) = W := ⟨_, rfl⟩
            have hck : Chg w8 w9 nob := by rw [← hw9]; exact (Chg.refl w8 nob).alloc _
            have HZ : Hid (Blk w9 w8.heap.size 26 (scA r c (.slice aq l.length cq) y x h tt)) := Lib.hid (by rw [← hw9]; exact Blk.new w8 _ _)
            rw [hw9]
            clear hw9
            obtain ⟨i6, hi6⟩ : ∃ i, w8.heap.size = i := ⟨_, rfl⟩
            rw [hi6] at HZ ⊢
            clear hi6
            replace HQ := Lib.hid (HQ.out.kept hck)
            replace HK := Lib.hid (HK.out.kept hck)
            clear hck
            clear ca0 ca1 ca2 ca3 ca4 ca5 ca6 cb0 cb1 cb2 cb3 cb4 cb5 cb6
            have ca0 := HK.out.b4.cell 0
            have ca1 := HK.out.b4.cell 1
            have ca2 := HK.out.b4.cell 2
            have ca3 := HK.out.b4.cell 3
            have ca4 := HK.out.b4.cell 4
            have ca5 := HK.out.b4.cell 5
            have ca6 := HK.out.b4.cell 6
            simp only [List.getElem?_toArray, List.getElem?_cons_zero, List.getElem?_cons_succ] at ca0 ca1 ca2 ca3 ca4 ca5 ca6
            have cb0 := HK.out.b5.cell 0
            have cb1 := HK.out.b5.cell 1
            have cb2 := HK.out.b5.cell 2
            have cb3 := HK.out.b5.cell 3
            have cb4 := HK.out.b5.cell 4
            have cb5 := HK.out.b5.cell 5
            have cb6 := HK.out.b5.cell 6
            simp only [List.getElem?_toArray, List.getElem?_cons_zero, List.getElem?_cons_succ] at cb0 cb1 cb2 cb3 cb4 cb5 cb6
            have z0 := HZ.out.cell 0
            have z1 := HZ.out.cell 1
            have z2 := HZ.out.cell 2
            have z3 := HZ.out.cell 3
            have z4 := HZ.out.cell 4
            have z5 := HZ.out.cell 5
            have z6 := HZ.out.cell 6
            simp only [List.getElem?_toArray, List.getElem?_cons_zero, List.getElem?_cons_succ] at z0 z1 z2 z3 z4 z5 z6
            go_wp2_with fail
            go_at_call 21
            refine (same_lit w9 _ _ r c l y x h tt HQ.out.1.rd (HA.out.kept HK.out.chg (fun _ _ => id)) (by omega)).mono ?_
            rintro e w10 ⟨rfl, hck⟩
            clear z0 z1 z2 z3 z4 z5 z6 HZ HQ
            replace HK := Lib.hid (HK.out.kept hck)
            clear hck
            clear ca0 ca1 ca2 ca3 ca4 ca5 ca6 cb0 cb1 cb2 cb3 cb4 cb5 cb6
            have ca0 := HK.out.b4.cell 0
            have ca1 := HK.out.b4.cell 1
            have ca2 := HK.out.b4.cell 2
            have ca3 := HK.out.b4.cell 3
            have ca4 := HK.out.b4.cell 4
            have ca5 := HK.out.b4.cell 5
            have ca6 := HK.out.b4.cell 6
            simp only [List.getElem?_toArray, List.getElem?_cons_zero, List.getElem?_cons_succ] at ca0 ca1 ca2 ca3 ca4 ca5 ca6
            have cb0 := HK.out.b5.cell 0
            have cb1 := HK.out.b5.cell 1
            have cb2 := HK.out.b5.cell 2
            have cb3 := HK.out.b5.cell 3
            have cb4 := HK.out.b5.cell 4
            have cb5 := HK.out.b5.cell 5
            have cb6 := HK.out.b5.cell 6
            simp only [List.getElem?_toArray, List.getElem?_cons_zero, List.getElem?_cons_succ] at cb0 cb1 cb2 cb3 cb4 cb5 cb6
            go_wp2_with fail
            go_at_call 9
            refine (kdec_cut w10 _ ⟨r, c, l, y, x, h, tt⟩ X HM1.out (HX1.out (by simp)) hkl (by simpa using HK.out.x.take (Nat.le_of_lt hkl)) (by omega) (HT.out.kept HK.out.chg)).mono ?_
            rintro e w11 ⟨rfl, hck⟩
            replace HK := Lib.hid (HK.out.kept hck)
            clear hck
            clear ca0 ca1 ca2 ca3 ca4 ca5 ca6 cb0 cb1 cb2 cb3 cb4 cb5 cb6
            have ca0 := HK.out.b4.cell 0
            have ca1 := HK.out.b4.cell 1
            have ca2 := HK.out.b4.cell 2
            have ca3 := HK.out.b4.cell 3
            have ca4 := HK.out.b4.cell 4
            have ca5 := HK.out.b4.cell 5
            have ca6 := HK.out.b4.cell 6
            simp only [List.getElem?_toArray, List.getElem?_cons_zero, List.getElem?_cons_succ] at ca0 ca1 ca2 ca3 ca4 ca5 ca6
            have cb0 := HK.out.b5.cell 0
            have cb1 := HK.out.b5.cell 1
            have cb2 := HK.out.b5.cell 2
            have cb3 := HK.out.b5.cell 3
            have cb4 := HK.out.b5.cell 4
            have cb5 := HK.out.b5.cell 5
            have cb6 := HK.out.b5.cell 6
            simp only [List.getElem?_toArray, List.getElem?_cons_zero, List.getElem?_cons_succ] at cb0 cb1 cb2 cb3 cb4 cb5 cb6
            go_wp2
            go_meet
            exact Lib.hid (HK.out.kept ((Chg.refl _ nob).alloc _))
        case rest =>
          rename World => wA
          replace HK := hcut
          clear hcut
          clear ca0 ca1 ca2 ca3 ca4 ca5 ca6 cb0 cb1 cb2 cb3 cb4 cb5 cb6
          have ca0 := HK.out.b4.cell 0
          have ca1 := HK.out.b4.cell 1
          have ca2 := HK.out.b4.cell 2
          have ca3 := HK.out.b4.cell 3
          have ca4 := HK.out.b4.cell 4
          have ca5 := HK.out.b4.cell 5
          have ca6 := HK.out.b4.cell 6
          simp only [List.getElem?_toArray, List.getElem?_cons_zero, List.getElem?_cons_succ] at ca0 ca1 ca2 ca3 ca4 ca5 ca6
          have cb0 := HK.out.b5.cell 0
          have cb1 := HK.out.b5.cell 1
          have cb2 := HK.out.b5.cell 2
          have cb3 := HK.out.b5.cell 3
          have cb4 := HK.out.b5.cell 4
          have cb5 := HK.out.b5.cell 5
          have cb6 := HK.out.b5.cell 6
          simp only [List.getElem?_toArray, List.getElem?_cons_zero, List.getElem?_cons_succ] at cb0 cb1 cb2 cb3 cb4 cb5 cb6
          go_upto_region 16 with (fail)
          go_cut [102] (fun cv wx => cv = .bool false ∧ Hid (KBs w wx i4 i5 (scA r c (.slice a1 l.length c1) y x h tt) (scA r' c' (.slice a2' l'.length c2') y' x' h' tt') (.slice ax X.length cx) (.slice ay Y.length cy) X Y))
          case first =>
            cases m1 <;> cases m2
            all_goals refine wp_one [10, 11] [9, 12] [(9, [10, 11])] [0, 1, 2, 3, 4, 5, 6, 7, 8, 10, 11, 9, 12, 13, 14] rfl (by kernel_rfl) (fun _ _ _ _ _ h => h) ?_; simp only [List.map_cons, List.map_nil, List.getElem?_toArray, List.getElem?_cons_zero, List.getElem?_cons_succ]
            all_goals (
              obtain ⟨wD, hwd⟩ : ∃ W, World.drew wA = W := ⟨_, rfl⟩
              have hck : Chg wA wD nob := by rw [← hwd]; exact (Chg.refl wA nob).drew
              rw [hwd]
              clear hwd
              replace HK := Lib.hid (HK.out.kept hck)
              clear hck
              clear ca0 ca1 ca2 ca3 ca4 ca5 ca6 cb0 cb1 cb2 cb3 cb4 cb5 cb6
              have ca0 := HK.out.b4.cell 0
              have ca1 := HK.out.b4.cell 1
              have ca2 := HK.out.b4.cell 2
              have ca3 := HK.out.b4.cell 3
              have ca4 := HK.out.b4.cell 4
              have ca5 := HK.out.b4.cell 5
              have ca6 := HK.out.b4.cell 6
              simp only [List.getElem?_toArray, List.getElem?_cons_zero, List.getElem?_cons_succ] at ca0 ca1 ca2 ca3 ca4 ca5 ca6
              have cb0 := HK.out.b5.cell 0
              have cb1 := HK.out.b5.cell 1
              have cb2 := HK.out.b5.cell 2
              have cb3 := HK.out.b5.cell 3
              have cb4 := HK.out.b5.cell 4
              have cb5 := HK.out.b5.cell 5
              have cb6 := HK.out.b5.cell 6
              simp only [List.getElem?_toArray, List.getElem?_cons_zero, List.getElem?_cons_succ] at cb0 cb1 cb2 cb3 cb4 cb5 cb6)
            · (repeat (first | (apply can0; (· rfl); (· rfl); (· (intro w'; first | (go_simp; with_reducible rfl) | (go_simp; done))); simp only [Act.put, List.setIfInBounds_toArray, List.set_cons_zero, List.set_cons_succ]) | (apply can1; (· rfl); (· rfl); (· (first | (go_simp; with_reducible rfl) | (go_simp; done))); simp only [Act.put, List.setIfInBounds_toArray, List.set_cons_zero, List.set_cons_succ]) | (apply canN; (· rfl); (· rfl); simp only [Act.put, List.setIfInBounds_toArray, List.set_cons_zero, List.set_cons_succ]) | (apply canN1; (· rfl); (· rfl); simp only [Act.put, List.setIfInBounds_toArray, List.set_cons_zero, List.set_cons_succ]) | (apply can0; (· rfl); (· (go_simp; done)); (· (intro w'; first | (go_simp; with_reducible rfl) | (go_simp; done))); simp only [Act.put, List.setIfInBounds_toArray, List.set_cons_zero, List.set_cons_succ]) | (apply can1; (· rfl); (· (go_simp; done)); (· (first | (go_simp; with_reducible rfl) | (go_simp; done))); simp only [Act.put, List.setIfInBounds_toArray, List.set_cons_zero, List.set_cons_succ]) | (apply canN; (· rfl); (· (go_simp; done)); simp only [Act.put, List.setIfInBounds_toArray, List.set_cons_zero, List.set_cons_succ]) | (apply canN1; (· rfl); (· (go_simp; done)); simp only [Act.put, List.setIfInBounds_toArray, List.set_cons_zero, List.set_cons_succ])))
              refine canM rfl [10, 11] rfl rfl (fun u hu => by simp only [List.mem_cons, List.not_mem_nil, or_false] at hu; (first | (subst hu; intro o ho hw; cases ho; cases (hw.symm.trans (show Region.wanted _ _ = false from rfl))) | (rcases hu with rfl | rfl <;> (intro o ho hw; cases ho; cases (hw.symm.trans (show Region.wanted _ _ = false from rfl)))))) ?_
              (repeat (first | (apply can0; (· rfl); (· rfl); (· (intro w'; first | (go_simp; with_reducible rfl) | (go_simp; done))); simp only [Act.put, List.setIfInBounds_toArray, List.set_cons_zero, List.set_cons_succ]) | (apply can1; (· rfl); (· rfl); (· (first | (go_simp; with_reducible rfl) | (go_simp; done))); simp only [Act.put, List.setIfInBounds_toArray, List.set_cons_zero, List.set_cons_succ]) | (apply canN; (· rfl); (· rfl); simp only [Act.put, List.setIfInBounds_toArray, List.set_cons_zero, List.set_cons_succ]) | (apply canN1; (· rfl); (· rfl); simp only [Act.put, List.setIfInBounds_toArray, List.set_cons_zero, List.set_cons_succ]) | (apply can0; (· rfl); (· (go_simp; done)); (· (intro w'; first | (go_simp; with_reducible rfl) | (go_simp; done))); simp only [Act.put, List.setIfInBounds_toArray, List.set_cons_zero, List.set_cons_succ]) | (apply can1; (· rfl); (· (go_simp; done)); (· (first | (go_simp; with_reducible rfl) | (go_simp; done))); simp only [Act.put, List.setIfInBounds_toArray, List.set_cons_zero, List.set_cons_succ]) | (apply canN; (· rfl); (· (go_simp; done)); simp only [Act.put, List.setIfInBounds_toArray, List.set_cons_zero, List.set_cons_succ]) | (apply canN1; (· rfl); (· (go_simp; done)); simp only [Act.put, List.setIfInBounds_toArray, List.set_cons_zero, List.set_cons_succ])))
              refine canM rfl [] rfl rfl (fun u hu => by cases hu) ?_
              (repeat (first | (apply can0; (· rfl); (· rfl); (· (intro w'; first | (go_simp; with_reducible rfl) | (go_simp; done))); simp only [Act.put, List.setIfInBounds_toArray, List.set_cons_zero, List.set_cons_succ]) | (apply can1; (· rfl); (· rfl); (· (first | (go_simp; with_reducible rfl) | (go_simp; done))); simp only [Act.put, List.setIfInBounds_toArray, List.set_cons_zero, List.set_cons_succ]) | (apply canN; (· rfl); (· rfl); simp only [Act.put, List.setIfInBounds_toArray, List.set_cons_zero, List.set_cons_succ]) | (apply canN1; (· rfl); (· rfl); simp only [Act.put, List.setIfInBounds_toArray, List.set_cons_zero, List.set_cons_succ]) | (apply can0; (· rfl); (· (go_simp; done)); (· (intro w'; first | (go_simp; with_reducible rfl) | (go_simp; done))); simp only [Act.put, List.setIfInBounds_toArray, List.set_cons_zero, List.set_cons_succ]) | (apply can1; (· rfl); (· (go_simp; done)); (· (first | (go_simp; with_reducible rfl) | (go_simp; done))); simp only [Act.put, List.setIfInBounds_toArray, List.set_cons_zero, List.set_cons_succ]) | (apply canN; (· rfl); (· (go_simp; done)); simp only [Act.put, List.setIfInBounds_toArray, List.set_cons_zero, List.set_cons_succ]) | (apply canN1; (· rfl); (· (go_simp; done)); simp only [Act.put, List.setIfInBounds_toArray, List.set_cons_zero, List.set_cons_succ])))
              refine canE ?_
              go_wp2
              go_meet
              exact ⟨rfl, HK⟩
            · (repeat (first | (apply can0; (· rfl); (· rfl); (· (intro w'; first | (go_simp; with_reducible rfl) | (go_simp; done))); simp only [Act.put, List.setIfInBounds_toArray, List.set_cons_zero, List.set_cons_succ]) | (apply can1; (· rfl); (· rfl); (· (first | (go_simp; with_reducible rfl) | (go_simp; done))); simp only [Act.put, List.setIfInBounds_toArray, List.set_cons_zero, List.set_cons_succ]) | (apply canN; (· rfl); (· rfl); simp only [Act.put, List.setIfInBounds_toArray, List.set_cons_zero, List.set_cons_succ]) | (apply canN1; (· rfl); (· rfl); simp only [Act.put, List.setIfInBounds_toArray, List.set_cons_zero, List.set_cons_succ]) | (apply can0; (· rfl); (· (go_simp; done)); (· (intro w'; first | (go_simp; with_reducible rfl) | (go_simp; done))); simp only [Act.put, List.setIfInBounds_toArray, List.set_cons_zero, List.set_cons_succ]) | (apply can1; (· rfl); (· (go_simp; done)); (· (first | (go_simp; with_reducible rfl) | (go_simp; done))); simp only [Act.put, List.setIfInBounds_toArray, List.set_cons_zero, List.set_cons_succ]) | (apply canN; (· rfl); (· (go_simp; done)); simp only [Act.put, List.setIfInBounds_toArray, List.set_cons_zero, List.set_cons_succ]) | (apply canN1; (· rfl); (· (go_simp; done)); simp only [Act.put, List.setIfInBounds_toArray, List.set_cons_zero, List.set_cons_succ])))
              refine canM rfl [10, 11] rfl rfl (fun u hu => by simp only [List.mem_cons, List.not_mem_nil, or_false] at hu; (first | (subst hu; intro o ho hw; cases ho; cases (hw.symm.trans (show Region.wanted _ _ = false from rfl))) | (rcases hu with rfl | rfl <;> (intro o ho hw; cases ho; cases (hw.symm.trans (show Region.wanted _ _ = false from rfl)))))) ?_
              (repeat (first | (apply can0; (· rfl); (· rfl); (· (intro w'; first | (go_simp; with_reducible rfl) | (go_simp; done))); simp only [Act.put, List.setIfInBounds_toArray, List.set_cons_zero, List.set_cons_succ]) | (apply can1; (· rfl); (· rfl); (· (first | (go_simp; with_reducible rfl) | (go_simp; done))); simp only [Act.put, List.setIfInBounds_toArray, List.set_cons_zero, List.set_cons_succ]) | (apply canN; (· rfl); (· rfl); simp only [Act.put, List.setIfInBounds_toArray, List.set_cons_zero, List.set_cons_succ]) | (apply canN1; (· rfl); (· rfl); simp only [Act.put, List.setIfInBounds_toArray, List.set_cons_zero, List.set_cons_succ]) | (apply can0; (· rfl); (· (go_simp; done)); (· (intro w'; first | (go_simp; with_reducible rfl) | (go_simp; done))); simp only [Act.put, List.setIfInBounds_toArray, List.set_cons_zero, List.set_cons_succ]) | (apply can1; (· rfl); (· (go_simp; done)); (· (first | (go_simp; with_reducible rfl) | (go_simp; done))); simp only [Act.put, List.setIfInBounds_toArray, List.set_cons_zero, List.set_cons_succ]) | (apply canN; (· rfl); (· (go_simp; done)); simp only [Act.put, List.setIfInBounds_toArray, List.set_cons_zero, List.set_cons_succ]) | (apply canN1; (· rfl); (· (go_simp; done)); simp only [Act.put, List.setIfInBounds_toArray, List.set_cons_zero, List.set_cons_succ])))
              refine canM rfl [] rfl rfl (fun u hu => by cases hu) ?_
              (repeat (first | (apply can0; (· rfl); (· rfl); (· (intro w'; first | (go_simp; with_reducible rfl) | (go_simp; done))); simp only [Act.put, List.setIfInBounds_toArray, List.set_cons_zero, List.set_cons_succ]) | (apply can1; (· rfl); (· rfl); (· (first | (go_simp; with_reducible rfl) | (go_simp; done))); simp only [Act.put, List.setIfInBounds_toArray, List.set_cons_zero, List.set_cons_succ]) | (apply canN; (· rfl); (· rfl); simp only [Act.put, List.setIfInBounds_toArray, List.set_cons_zero, List.set_cons_succ]) | (apply canN1; (· rfl); (· rfl); simp only [Act.put, List.setIfInBounds_toArray, List.set_cons_zero, List.set_cons_succ]) | (apply can0; (· rfl); (· (go_simp; done)); (· (intro w'; first | (go_simp; with_reducible rfl) | (go_simp; done))); simp only [Act.put, List.setIfInBounds_toArray, List.set_cons_zero, List.set_cons_succ]) | (apply can1; (· rfl); (· (go_simp; done)); (· (first | (go_simp; with_reducible rfl) | (go_simp; done))); simp only [Act.put, List.setIfInBounds_toArray, List.set_cons_zero, List.set_cons_succ]) | (apply canN; (· rfl); (· (go_simp; done)); simp only [Act.put, List.setIfInBounds_toArray, List.set_cons_zero, List.set_cons_succ]) | (apply canN1; (· rfl); (· (go_simp; done)); simp only [Act.put, List.setIfInBounds_toArray, List.set_cons_zero, List.set_cons_succ])))
              refine canE ?_
              go_wp2
              go_meet
              exact ⟨rfl, HK⟩
            · (repeat (first | (apply can0; (· rfl); (· rfl); (· (intro w'; first | (go_simp; with_reducible rfl) | (go_simp; done))); simp only [Act.put, List.setIfInBounds_toArray, List.set_cons_zero, List.set_cons_succ]) | (apply can1; (· rfl); (· rfl); (· (first | (go_simp; with_reducible rfl) | (go_simp; done))); simp only [Act.put, List.setIfInBounds_toArray, List.set_cons_zero, List.set_cons_succ]) | (apply canN; (· rfl); (· rfl); simp only [Act.put, List.setIfInBounds_toArray, List.set_cons_zero, List.set_cons_succ]) | (apply canN1; (· rfl); (· rfl); simp only [Act.put, List.setIfInBounds_toArray, List.set_cons_zero, List.set_cons_succ]) | (apply can0; (· rfl); (· (go_simp; done)); (· (intro w'; first | (go_simp; with_reducible rfl) | (go_simp; done))); simp only [Act.put, List.setIfInBounds_toArray, List.set_cons_zero, List.set_cons_succ]) | (apply can1; (· rfl); (· (go_simp; done)); (· (first | (go_simp; with_reducible rfl) | (go_simp; done))); simp only [Act.put, List.setIfInBounds_toArray, List.set_cons_zero, List.set_cons_succ]) | (apply canN; (· rfl); (· (go_simp; done)); simp only [Act.put, List.setIfInBounds_toArray, List.set_cons_zero, List.set_cons_succ]) | (apply canN1; (· rfl); (· (go_simp; done)); simp only [Act.put, List.setIfInBounds_toArray, List.set_cons_zero, List.set_cons_succ])))
              refine canM rfl [10, 11] rfl rfl (fun u hu => by simp only [List.mem_cons, List.not_mem_nil, or_false] at hu; (first | (subst hu; intro o ho hw; cases ho; cases (hw.symm.trans (show Region.wanted _ _ = false from rfl))) | (rcases hu with rfl | rfl <;> (intro o ho hw; cases ho; cases (hw.symm.trans (show Region.wanted _ _ = false from rfl)))))) ?_
              (repeat (first | (apply can0; (· rfl); (· rfl); (· (intro w'; first | (go_simp; with_reducible rfl) | (go_simp; done))); simp only [Act.put, List.setIfInBounds_toArray, List.set_cons_zero, List.set_cons_succ]) | (apply can1; (· rfl); (· rfl); (· (first | (go_simp; with_reducible rfl) | (go_simp; done))); simp only [Act.put, List.setIfInBounds_toArray, List.set_cons_zero, List.set_cons_succ]) | (apply canN; (· rfl); (· rfl); simp only [Act.put, List.setIfInBounds_toArray, List.set_cons_zero, List.set_cons_succ]) | (apply canN1; (· rfl); (· rfl); simp only [Act.put, List.setIfInBounds_toArray, List.set_cons_zero, List.set_cons_succ]) | (apply can0; (· rfl); (· (go_simp; done)); (· (intro w'; first | (go_simp; with_reducible rfl) | (go_simp; done))); simp only [Act.put, List.setIfInBounds_toArray, List.set_cons_zero, List.set_cons_succ]) | (apply can1; (· rfl); (· (go_simp; done)); (· (first | (go_simp; with_reducible rfl) | (go_simp; done))); simp only [Act.put, List.setIfInBounds_toArray, List.set_cons_zero, List.set_cons_succ]) | (apply canN; (· rfl); (· (go_simp; done)); simp only [Act.put, List.setIfInBounds_toArray, List.set_cons_zero, List.set_cons_succ]) | (apply canN1; (· rfl); (· (go_simp; done)); simp only [Act.put, List.setIfInBounds_toArray, List.set_cons_zero, List.set_cons_succ])))
              refine canM rfl [] rfl rfl (fun u hu => by cases hu) ?_
              (repeat (first | (apply can0; (· rfl); (· rfl); (· (intro w'; first | (go_simp; with_reducible rfl) | (go_simp; done))); simp only [Act.put, List.setIfInBounds_toArray, List.set_cons_zero, List.set_cons_succ]) | (apply can1; (· rfl); (· rfl); (· (first | (go_simp; with_reducible rfl) | (go_simp; done))); simp only [Act.put, List.setIfInBounds_toArray, List.set_cons_zero, List.set_cons_succ]) | (apply canN; (· rfl); (· rfl); simp only [Act.put, List.setIfInBounds_toArray, List.set_cons_zero, List.set_cons_succ]) | (apply canN1; (· rfl); (· rfl); simp only [Act.put, List.setIfInBounds_toArray, List.set_cons_zero, List.set_cons_succ]) | (apply can0; (· rfl); (· (go_simp; done)); (· (intro w'; first | (go_simp; with_reducible rfl) | (go_simp; done))); simp only [Act.put, List.setIfInBounds_toArray, List.set_cons_zero, List.set_cons_succ]) | (apply can1; (· rfl); (· (go_simp; done)); (· (first | (go_simp; with_reducible rfl) | (go_simp; done))); simp only [Act.put, List.setIfInBounds_toArray, List.set_cons_zero, List.set_cons_succ]) | (apply canN; (· rfl); (· (go_simp; done)); simp only [Act.put, List.setIfInBounds_toArray, List.set_cons_zero, List.set_cons_succ]) | (apply canN1; (· rfl); (· (go_simp; done)); simp only [Act.put, List.setIfInBounds_toArray, List.set_cons_zero, List.set_cons_succ])))
              refine canE ?_
              go_wp2
              go_meet
              exact ⟨rfl, HK⟩
            · have HSM := Lib.hid (same_any wD ⟨r, c, l, y, x, h, tt⟩ ⟨r', c', l', y', x', h', tt'⟩ (.slice a1 l.length c1) (.slice a2' l'.length c2') (HA.out.kept HK.out.chg (fun _ _ => id)) (HB.out.kept HK.out.chg (fun _ _ => id)) (by (show l.length ≤ _); omega))
              obtain ⟨eq, heq⟩ : ∃ b, decide (X = Y) = b := ⟨_, rfl⟩
              have heq2 : decide ((⟨r, c, l, y, x, h, tt⟩ : Sc) = ⟨r', c', l', y', x', h', tt'⟩) = eq := by
                rw [← heq, HX1.out (by simp), HY1.out (by simp)]
                exact (key_same HM1.out HM2.out).symm
              have heq3 : (eq != eq) = false := bne_self_eq_false eq
              rw [heq2] at HSM
              (repeat (first | (apply can0; (· rfl); (· rfl); (· (intro w'; first | (go_simp; with_reducible rfl) | (go_simp; done))); simp only [Act.put, List.setIfInBounds_toArray, List.set_cons_zero, List.set_cons_succ]) | (apply can1; (· rfl); (· rfl); (· (first | (go_simp; with_reducible rfl) | (go_simp; done))); simp only [Act.put, List.setIfInBounds_toArray, List.set_cons_zero, List.set_cons_succ]) | (apply canN; (· rfl); (· rfl); simp only [Act.put, List.setIfInBounds_toArray, List.set_cons_zero, List.set_cons_succ]) | (apply canN1; (· rfl); (· rfl); simp only [Act.put, List.setIfInBounds_toArray, List.set_cons_zero, List.set_cons_succ]) | (apply can0; (· rfl); (· (go_simp; done)); (· (intro w'; first | (go_simp; with_reducible rfl) | (go_simp; done))); simp only [Act.put, List.setIfInBounds_toArray, List.set_cons_zero, List.set_cons_succ]) | (apply can1; (· rfl); (· (go_simp; done)); (· (first | (go_simp; with_reducible rfl) | (go_simp; done))); simp only [Act.put, List.setIfInBounds_toArray, List.set_cons_zero, List.set_cons_succ]) | (apply canN; (· rfl); (· (go_simp; done)); simp only [Act.put, List.setIfInBounds_toArray, List.set_cons_zero, List.set_cons_succ]) | (apply canN1; (· rfl); (· (go_simp; done)); simp only [Act.put, List.setIfInBounds_toArray, List.set_cons_zero, List.set_cons_succ])))
              refine canW rfl [10, 11] rfl (fun K hK => ?_)
              go_simp
              go_at_call 22
              refine (bytes_by HK.out.x HK.out.y).mono ?_
              rw [heq]
              clear heq heq2
              rintro e w2 ⟨rfl, rfl⟩
              (refine hK _ _ (fun u hu => by (simp only [List.mem_cons, List.not_mem_nil, or_false] at hu); (first | (subst hu; exact reRun_mk rfl (by first | (go_simp; with_reducible rfl) | (go_simp; done)) (holds_at rfl)) | ((repeat' (first | (rcases hu with rfl | hu) | (subst hu))) <;> exact reRun_mk rfl (by first | (go_simp; with_reducible rfl) | (go_simp; done)) (holds_at rfl)))) ?_; clear hK K; try simp only [Act.put, List.setIfInBounds_toArray, List.set_cons_zero, List.set_cons_succ])
              (repeat (first | (apply can0; (· rfl); (· rfl); (· (intro w'; first | (go_simp; with_reducible rfl) | (go_simp; done))); simp only [Act.put, List.setIfInBounds_toArray, List.set_cons_zero, List.set_cons_succ]) | (apply can1; (· rfl); (· rfl); (· (first | (go_simp; with_reducible rfl) | (go_simp; done))); simp only [Act.put, List.setIfInBounds_toArray, List.set_cons_zero, List.set_cons_succ]) | (apply canN; (· rfl); (· rfl); simp only [Act.put, List.setIfInBounds_toArray, List.set_cons_zero, List.set_cons_succ]) | (apply canN1; (· rfl); (· rfl); simp only [Act.put, List.setIfInBounds_toArray, List.set_cons_zero, List.set_cons_succ]) | (apply can0; (· rfl); (· (go_simp; done)); (· (intro w'; first | (go_simp; with_reducible rfl) | (go_simp; done))); simp only [Act.put, List.setIfInBounds_toArray, List.set_cons_zero, List.set_cons_succ]) | (apply can1; (· rfl); (· (go_simp; done)); (· (first | (go_simp; with_reducible rfl) | (go_simp; done))); simp only [Act.put, List.setIfInBounds_toArray, List.set_cons_zero, List.set_cons_succ]) | (apply canN; (· rfl); (· (go_simp; done)); simp only [Act.put, List.setIfInBounds_toArray, List.set_cons_zero, List.set_cons_succ]) | (apply canN1; (· rfl); (· (go_simp; done)); simp only [Act.put, List.setIfInBounds_toArray, List.set_cons_zero, List.set_cons_succ])))
              refine canW rfl [] rfl (fun K hK => ?_)
              go_simp
              go_at_call 21
              refine HSM.out.mono ?_
              rintro e w3 ⟨rfl, hck⟩
              replace HK := Lib.hid (HK.out.kept hck)
              (refine hK _ _ (fun u hu => by cases hu) ?_; clear hK K; try simp only [Act.put, List.setIfInBounds_toArray, List.set_cons_zero, List.set_cons_succ])
              (repeat (first | (apply can0; (· rfl); (· rfl); (· (intro w'; first | (go_simp; with_reducible rfl) | (go_simp; done))); simp only [Act.put, List.setIfInBounds_toArray, List.set_cons_zero, List.set_cons_succ]) | (apply can1; (· rfl); (· rfl); (· (first | (go_simp; with_reducible rfl) | (go_simp; done))); simp only [Act.put, List.setIfInBounds_toArray, List.set_cons_zero, List.set_cons_succ]) | (apply canN; (· rfl); (· rfl); simp only [Act.put, List.setIfInBounds_toArray, List.set_cons_zero, List.set_cons_succ]) | (apply canN1; (· rfl); (· rfl); simp only [Act.put, List.setIfInBounds_toArray, List.set_cons_zero, List.set_cons_succ]) | (apply can0; (· rfl); (· (go_simp; done)); (· (intro w'; first | (go_simp; with_reducible rfl) | (go_simp; done))); simp only [Act.put, List.setIfInBounds_toArray, List.set_cons_zero, List.set_cons_succ]) | (apply can1; (· rfl); (· (go_simp; done)); (· (first | (go_simp; with_reducible rfl) | (go_simp; done))); simp only [Act.put, List.setIfInBounds_toArray, List.set_cons_zero, List.set_cons_succ]) | (apply canN; (· rfl); (· (go_simp; done)); simp only [Act.put, List.setIfInBounds_toArray, List.set_cons_zero, List.set_cons_succ]) | (apply canN1; (· rfl); (· (go_simp; done)); simp only [Act.put, List.setIfInBounds_toArray, List.set_cons_zero, List.set_cons_succ])))
              refine canE ?_
              go_wp2
              go_meet
              exact ⟨rfl, HK⟩
          case rest =>
            obtain ⟨rfl, hcut⟩ := hcut
            rename World => wB
            replace HK := hcut
            clear hcut
            have HC := Lib.hid HK.out.chg
            clear HK HA HB HM1 HM2 HX1 HY1 HXB HYB
            go_wp2_with fail
            go_at_call 9
            refine (kdec_any wB (.slice a2 l2.length cap2) l2 (K2.out.kept HC.out) (by omega) (HT.out.kept HC.out)).mono ?_
            rintro e wc ⟨hck, ⟨q, vq, hd, rfl, hcs⟩ | ⟨hd, rfl⟩⟩
            · obtain ⟨hqk, hqm⟩ := decQ_back (by decide) K2.out.byte hd
              obtain ⟨⟨_, q1⟩, ⟨_, q2⟩, ⟨_, _⟩, ⟨_, _⟩, q3, _, q4⟩ := Sc.may_b hqm
              have q5 : q.l.length ≤ 12000 := by
                have : q.r * q.c ≤ 60 * 200 := Int.mul_le_mul q1 q2 (by omega) (by omega)
                omega
              obtain ⟨aq, cq, rfl, _⟩ := hcs.form
              have HQK := Lib.hid hqk.symm
              have HQM := Lib.hid hqm
              clear hqk hqm hd q1 q2 q3
              replace HC := Lib.hid (HC.out.trans hck (fun _ _ h => h))
              clear hck
              go_upto_region 19 with (fail)
              obtain ⟨wd, hwd⟩ : ∃ W, wc.alloc (.cells (scA q.r q.c (.slice aq q.l.length cq) q.y q.x q.h q.t) 26) = W := ⟨_, rfl⟩
              have hck : Chg wc wd nob := by rw [← hwd]; exact (Chg.refl wc nob).alloc _
              have HZ : Hid (Blk wd wc.heap.size 26 (scA q.r q.c (.slice aq q.l.length cq) q.y q.x q.h q.t)) := Lib.hid (by rw [← hwd]; exact Blk.new wc _ _)
              rw [hwd]
              clear hwd
              obtain ⟨i6, hi6⟩ : ∃ i, wc.heap.size = i := ⟨_, rfl⟩
              rw [hi6] at HZ ⊢
              clear hi6
              have HQ := Lib.hid (hcs.kept hck)
              replace HC := Lib.hid (HC.out.trans hck (fun _ _ h => h))
              clear hck hcs
              have z0 := HZ.out.cell 0
              have z1 := HZ.out.cell 1
              have z2 := HZ.out.cell 2
              have z3 := HZ.out.cell 3
              have z4 := HZ.out.cell 4
              have z5 := HZ.out.cell 5
              have z6 := HZ.out.cell 6
              simp only [List.getElem?_toArray, List.getElem?_cons_zero, List.getElem?_cons_succ] at z0 z1 z2 z3 z4 z5 z6
              go_wp2_with fail
              go_at_call 19
              refine (kenc_sc wd q _ HQ.out.1.rd (by omega) (by omega) (HT.out.kept HC.out)).mono ?_
              rw [HQM.out, if_pos rfl, HQK.out]
              rintro e we ⟨vz, rfl, hbz⟩
              have hck := hbz.2.1
              have HBZ : Hid (By we vz l2) := Lib.hid ⟨hbz.1.rd, hbz.1.nilOk, K2.out.byte⟩
              clear hbz
              replace HZ := Lib.hid (HZ.out.kept hck id)
              replace HQ := Lib.hid (HQ.out.kept hck)
              replace HC := Lib.hid (HC.out.trans hck (fun _ _ h => h))
              clear hck z0 z1 z2 z3 z4 z5 z6
              have z0 := HZ.out.cell 0
              have z1 := HZ.out.cell 1
              have z2 := HZ.out.cell 2
              have z3 := HZ.out.cell 3
              have z4 := HZ.out.cell 4
              have z5 := HZ.out.cell 5
              have z6 := HZ.out.cell 6
              simp only [List.getElem?_toArray, List.getElem?_cons_zero, List.getElem?_cons_succ] at z0 z1 z2 z3 z4 z5 z6
              obtain ⟨az, cz, rfl, _⟩ := HBZ.out.form
              go_wp2_with fail
              go_at_call 8
              refine (kfirst_any we (HT.out.kept HC.out)).mono ?_
              rintro e x_ ⟨rfl, hx⟩
              have HXX := Lib.hid (Chg.trans (HC.out) hx (fun _ _ h => h))
              have HX0 := Lib.hid hx
              clear hx
              have HMS := Lib.hid (may_sc x_ q (.slice aq q.l.length cq) (HQ.out.1.rd.kept HX0.out (fun _ _ => id)) (by omega) (by omega) (HT.out.kept HXX.out))
              rw [HQM.out] at HMS
              have hck := HX0.out
              replace HZ := Lib.hid (HZ.out.kept hck id)
              clear z0 z1 z2 z3 z4 z5 z6
              have z0 := HZ.out.cell 0
              have z1 := HZ.out.cell 1
              have z2 := HZ.out.cell 2
              have z3 := HZ.out.cell 3
              have z4 := HZ.out.cell 4
              have z5 := HZ.out.cell 5
              have z6 := HZ.out.cell 6
              simp only [List.getElem?_toArray, List.getElem?_cons_zero, List.getElem?_cons_succ] at z0 z1 z2 z3 z4 z5 z6
              go_wp2_with fail
              go_at_call 22
              refine (bytes_by (HBZ.out.kept hck) (K2.out.kept HXX.out)).mono ?_
              rintro e wy ⟨rfl, rfl⟩
              clear hck
              go_wp2_with fail
              go_at_call 20
              refine HMS.out.mono ?_
              rintro e wz ⟨rfl, hck⟩
              replace HC := Lib.hid (HXX.out.trans hck (fun _ _ h => h))
              clear hck
              go_wp2
              go_ret
              exact ⟨by simp, HC.out⟩
            · replace HC := Lib.hid (HC.out.trans hck (fun _ _ h => h))
              clear hck hd
              go_upto_region 19 with (fail)
              obtain ⟨wd, hwd⟩ : ∃ W, wc.alloc (.cells (scA 0 0 (.slice none 0 0) 0 0 false ⟨#[]⟩) 26) = W := ⟨_, rfl⟩
              have hck : Chg wc wd nob := by rw [← hwd]; exact (Chg.refl wc nob).alloc _
              have HZ : Hid (Blk wd wc.heap.size 26 (scA 0 0 (.slice none 0 0) 0 0 false ⟨#[]⟩)) := Lib.hid (by rw [← hwd]; exact Blk.new wc _ _)
              rw [hwd]
              clear hwd
              replace HC := Lib.hid (HC.out.trans hck (fun _ _ h => h))
              clear hck
              go_wp2_with fail
              go_at_call 8
              refine (kfirst_any wd (HT.out.kept HC.out)).mono ?_
              rintro e x_ ⟨rfl, hx⟩
              have HXX := Lib.hid (Chg.trans (HC.out) hx (fun _ _ h => h))
              have HX0 := Lib.hid hx
              clear hx
              have z2 := (HZ.out.kept HX0.out id).cell 2
              simp only [List.getElem?_toArray, List.getElem?_cons_zero, List.getElem?_cons_succ] at z2
              go_wp2
              go_ret
              exact ⟨rfl, HXX.out⟩
      · have hout : 3000 < l2.length ∨ (l2.length ≤ 3000 ∧ a3 < 0) := by omega
        rcases hout with h1 | ⟨h1, h2⟩
        · have h1i : (3000 : Int) < (l2.length : Int) := by omega
          go_wp2_with fail
          go_at_call 8
          refine (kfirst_any w4 (HT.out.kept HC.out)).mono ?_
          rintro e x_ ⟨rfl, hx⟩
          have HXX := Lib.hid (Chg.trans (HC.out) hx (fun _ _ h => h))
          have HX0 := Lib.hid hx
          clear hx
          go_wp2
          go_ret
          exact ⟨rfl, HXX.out⟩
        · have h1i : (l2.length : Int) ≤ 3000 := by omega
          go_wp2_with fail
          go_at_call 8
          refine (kfirst_any w4 (HT.out.kept HC.out)).mono ?_
          rintro e x_ ⟨rfl, hx⟩
          have HXX := Lib.hid (Chg.trans (HC.out) hx (fun _ _ h => h))
          have HX0 := Lib.hid hx
          clear hx
          go_wp2
          go_ret
          exact ⟨rfl, HXX.out⟩
theorem KeyBack_walk (w : World) (r0 c0 y0 x0 : Int) (h0 : Bool) (t0 : ByteArray) (va0 : Value) (l0 : List Ce) (hr0 : Rd w 5 va0 l0.length (cellsV l0)) (nk0 : NilOk va0) (wf0 : ∀ c ∈ l0, Ce.wf c) (w0 : ((-9223372036854775808 ≤ r0 ∧ r0 ≤ 9223372036854775807) ∧ (-9223372036854775808 ≤ c0 ∧ c0 ≤ 9223372036854775807) ∧ (-9223372036854775808 ≤ y0 ∧ y0 ≤ 9223372036854775807) ∧ -9223372036854775808 ≤ x0 ∧ x0 ≤ 9223372036854775807))
    (r1 c1 y1 x1 : Int) (h1 : Bool) (t1 : ByteArray) (va1 : Value) (l1 : List Ce) (hr1 : Rd w 5 va1 l1.length (cellsV l1)) (nk1 : NilOk va1) (wf1 : ∀ c ∈ l1, Ce.wf c) (w1 : ((-9223372036854775808 ≤ r1 ∧ r1 ≤ 9223372036854775807) ∧ (-9223372036854775808 ≤ c1 ∧ c1 ≤ 9223372036854775807) ∧ (-9223372036854775808 ≤ y1 ∧ y1 ≤ 9223372036854775807) ∧ -9223372036854775808 ≤ x1 ∧ x1 ≤ 9223372036854775807))
    (a2 : Option Addr) (len2 cap2 : Nat) (l2 : List Int) (hr2 : Rd w 1 (.slice a2 len2 cap2) len2 (l2.map (Value.int .u8))) (hl2 : l2.length = len2) (y2 : len2 * 1 ≤ 140737488351232) (w2 : ∀ x ∈ l2, 0 ≤ x ∧ x ≤ 255) (nk2 : NilOk (.slice a2 len2 cap2))
    (a3 : Int) (w3 : -9223372036854775808 ≤ a3 ∧ a3 ≤ 9223372036854775807) (ht : Tab w) :
    Calls Tryd.prog 4 #[scV r0 c0 va0 y0 x0 h0 t0, scV r1 c1 va1 y1 x1 h1 t1, .slice a2 len2 cap2, .int .i64 a3] w fun e w' => e = .returned (.bool true) ∧ Chg w w' nob := by
  subst hl2
  exact KeyBack_sc w ⟨r0, c0, l0, y0, x0, h0, t0⟩ ⟨r1, c1, l1, y1, x1, h1, t1⟩ va0 va1 hr0 hr1 a2 cap2 l2 ⟨hr2, nk2, w2⟩ a3 w3 ht
end Go.Proofs.YtiojhfaeeelfeaaDoor
