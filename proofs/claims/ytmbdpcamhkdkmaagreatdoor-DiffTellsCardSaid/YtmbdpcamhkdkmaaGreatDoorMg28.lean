/-
  Are cells alike (tikref.Cells)?
  Are two screens alike (screen.Same, tikref.Screen)?
  A blank screen.
  Chapter 13: first; FewScreen.
  KeyBack, the plain part: what is cut off is no screen; a screen's text has seven bytes at least; Encode over a screen.
-/
import Derived.Test.YtmbdpcamhkdkmaaGreatDoorRunsM
import Derived.Test.YtmbdpcamhkdkmaaGreatDoorDecM
import Derived.Test.YtmbdpcamhkdkmaaGreatDoorMg6
import Derived.Handy
import Derived.Test.YtmbdpcamhkdkmaaGreatDoorEncM
import Derived.Test.YtmbdpcamhkdkmaaGreatDoorKDecM
namespace Go.Proofs.YtmbdpcamhkdkmaaGreatDoor
open Go.RowKit
set_option linter.unusedVariables false
set_option linter.unusedSimpArgs false

attribute [local go_sem ↓] ce_guard run_eql_ce run_neq_ce
set_option maxRecDepth 100000 in
set_option maxHeartbeats 4000000 in
theorem tcells_any (w : World) (va vb : Value) (s t : List Ce) (ha : Rd w 5 va s.length (cellsV s)) (hb : Rd w 5 vb t.length (cellsV t)) (hl0 : s.length ≤ 1000000) :
    Calls Tryz.prog 34 #[va, vb] w fun e w' => e = .returned (.bool (decide (s = t))) ∧ Chg w w' nob := by
  obtain ⟨a, c, rfl, hsc, _⟩ := ha.form
  obtain ⟨b, d, rfl, htd, _⟩ := hb.form
  have HA := Lib.hid ha
  have HB := Lib.hid hb
  clear ha hb
  obtain ⟨r, hr⟩ : ∃ r, decide (s = t) = r := ⟨_, rfl⟩
  have HR := Lib.hid hr
  rw [hr]
  clear hr
  by_cases hl : s.length = t.length
  · obtain ⟨n, hn⟩ : ∃ n, s.length = n := ⟨_, rfl⟩
    have HN := Lib.hid hn
    have HM : Hid (t.length = n) := Lib.hid (by omega)
    rw [hn] at HA hl0 ⊢
    rw [← hl, hn] at HB ⊢
    clear hl hn
    have h0 : (0 : Int) ≤ (n : Int) := by omega
    go_enter Tryz.func34, Tryz.ntmps34
    go_wp2_with fail
    go_loopw [5] (fun iv wr => ∃ i : Nat, i ≤ n ∧ iv = .int .i64 i ∧ Hid (s.take i = t.take i) ∧ Hid (Chg w wr nob)) (fun iv _ => n - (intOf iv).toNat)
    case atStart => exact ⟨0, Nat.zero_le _, rfl, Lib.hid rfl, Lib.hid (Chg.refl _ _)⟩
    case round =>
      obtain ⟨i, hi, rfl, HT, HC⟩ := hrel
      by_cases hin : i < n
      · have hii : (i : Int) < (n : Int) := by omega
        have hi0 : (0 : Int) ≤ (i : Int) := by omega
        obtain ⟨x, hx⟩ : ∃ x, s[i]? = some x := ⟨s[i]'(by rw [HN.out]; omega), List.getElem?_eq_getElem _⟩
        obtain ⟨y, hy⟩ : ∃ y, t[i]? = some y := ⟨t[i]'(by rw [HM.out]; omega), List.getElem?_eq_getElem _⟩
        obtain ⟨ga, oa, rfl, a0, a1, a2, a3, a4⟩ := (HA.out.kept HC.out (fun _ _ => id)).cell5 hx
        obtain ⟨gb, ob, rfl, b0, b1, b2, b3, b4⟩ := (HB.out.kept HC.out (fun _ _ => id)).cell5 hy
        obtain ⟨q, hq⟩ : ∃ q, eqC x y = q := ⟨_, rfl⟩
        have HX := Lib.hid hx
        have HY := Lib.hid hy
        have HQ : Hid (q = true ↔ x = y) := Lib.hid (by rw [← hq]; simp [eqC])
        obtain ⟨x1, x2, x3, x4, x5⟩ := x
        obtain ⟨y1, y2, y3, y4, y5⟩ := y
        simp only at a0 a1 a2 a3 a4 b0 b1 b2 b3 b4
        clear hx hy
        cases q with
        | true =>
          have HXY := Lib.hid (HQ.out.1 rfl)
          go_wp2_with fail
          go_quiet (fail)
          go_wp2
          go_roundw
          case rel => exact ⟨i + 1, by omega, by go_num, Lib.hid (by rw [List.take_add_one, List.take_add_one, HT.out, HX.out, HY.out, HXY.out]), Lib.hid (HC.out.drewN _)⟩
          case measure => simp [intOf]; omega
        | false =>
          have hf : r = false := by
            rw [← HR.out]
            refine decide_eq_false fun e => ?_
            rw [e] at HX
            have := Option.some.inj (HX.out.symm.trans HY.out)
            have h2 := HQ.out.2 this
            cases h2
          go_wp2_with fail
          go_quiet (fail)
          go_wp2
          go_ret
          exact ⟨by rw [hf]; rfl, HC.out.drewN _⟩
      · obtain rfl : i = n := by omega
        have hf : r = true := by
          rw [← HR.out]
          refine decide_eq_true ?_
          have h := HT.out
          rwa [List.take_of_length_le (by rw [HN.out]; exact Nat.le_refl _), List.take_of_length_le (by rw [HM.out]; exact Nat.le_refl _)] at h
        go_wp2
        go_ret
        exact ⟨by rw [hf]; rfl, HC.out⟩
  · have hf : r = false := by rw [← HR.out]; exact decide_eq_false (fun e => hl (by rw [e]))
    have hl' : ((s.length : Int) != (t.length : Int)) = true := by simp; omega
    clear hl
    go_enter Tryz.func34, Tryz.ntmps34
    go_wp2
    go_ret
    exact ⟨by rw [hf]; rfl, Chg.refl _ _⟩
set_option maxRecDepth 100000 in
set_option maxHeartbeats 4000000 in
theorem scells_any (w : World) (va vb : Value) (s t : List Ce) (ha : Rd w 5 va s.length (cellsV s)) (hb : Rd w 5 vb t.length (cellsV t)) (hl0 : s.length ≤ 1000000) :
    Calls Tryz.prog 38 #[va, vb] w fun e w' => e = .returned (.bool (decide (s = t))) ∧ Chg w w' nob := by
  obtain ⟨a, c, rfl, hsc, _⟩ := ha.form
  obtain ⟨b, d, rfl, htd, _⟩ := hb.form
  have HA := Lib.hid ha
  have HB := Lib.hid hb
  clear ha hb
  obtain ⟨r, hr⟩ : ∃ r, decide (s = t) = r := ⟨_, rfl⟩
  have HR := Lib.hid hr
  rw [hr]
  clear hr
  by_cases hl : s.length = t.length
  · obtain ⟨n, hn⟩ : ∃ n, s.length = n := ⟨_, rfl⟩
    have HN := Lib.hid hn
    have HM : Hid (t.length = n) := Lib.hid (by omega)
    rw [hn] at HA hl0 ⊢
    rw [← hl, hn] at HB ⊢
    clear hl hn
    have h0 : (0 : Int) ≤ (n : Int) := by omega
    go_enter Tryz.func38, Tryz.ntmps38
    go_wp2_with fail
    go_loopw [5, 13] (fun _ iv wr => ∃ i : Nat, i ≤ n ∧ iv = .int .i64 i ∧ Hid (s.take i = t.take i) ∧ Hid (Chg w wr nob)) (fun _ iv _ => n - (intOf iv).toNat)
    case atStart => exact ⟨0, Nat.zero_le _, rfl, Lib.hid rfl, Lib.hid (Chg.refl _ _)⟩
    case round =>
      obtain ⟨i, hi, rfl, HT, HC⟩ := hrel
      by_cases hin : i < n
      · have hii : (i : Int) < (n : Int) := by omega
        have hi0 : (0 : Int) ≤ (i : Int) := by omega
        obtain ⟨x, hx⟩ : ∃ x, s[i]? = some x := ⟨s[i]'(by rw [HN.out]; omega), List.getElem?_eq_getElem _⟩
        obtain ⟨y, hy⟩ : ∃ y, t[i]? = some y := ⟨t[i]'(by rw [HM.out]; omega), List.getElem?_eq_getElem _⟩
        obtain ⟨ga, oa, rfl, a0, a1, a2, a3, a4⟩ := (HA.out.kept HC.out (fun _ _ => id)).cell5 hx
        obtain ⟨gb, ob, rfl, b0, b1, b2, b3, b4⟩ := (HB.out.kept HC.out (fun _ _ => id)).cell5 hy
        obtain ⟨q, hq⟩ : ∃ q, eqC x y = q := ⟨_, rfl⟩
        have HX := Lib.hid hx
        have HY := Lib.hid hy
        have HQ : Hid (q = true ↔ x = y) := Lib.hid (by rw [← hq]; simp [eqC])
        obtain ⟨x1, x2, x3, x4, x5⟩ := x
        obtain ⟨y1, y2, y3, y4, y5⟩ := y
        simp only at a0 a1 a2 a3 a4 b0 b1 b2 b3 b4
        clear hx hy
        cases q with
        | true =>
          have HXY := Lib.hid (HQ.out.1 rfl)
          go_wp2_with fail
          go_quiet (fail)
          go_wp2
          go_roundw
          case rel => exact ⟨i + 1, by omega, by go_num, Lib.hid (by rw [List.take_add_one, List.take_add_one, HT.out, HX.out, HY.out, HXY.out]), Lib.hid (HC.out.drewN _)⟩
          case measure => simp [intOf]; omega
        | false =>
          have hf : r = false := by
            rw [← HR.out]
            refine decide_eq_false fun e => ?_
            rw [e] at HX
            have := Option.some.inj (HX.out.symm.trans HY.out)
            have h2 := HQ.out.2 this
            cases h2
          go_wp2_with fail
          go_quiet (fail)
          go_wp2
          go_ret
          exact ⟨by rw [hf]; rfl, HC.out.drewN _⟩
      · obtain rfl : i = n := by omega
        have hf : r = true := by
          rw [← HR.out]
          refine decide_eq_true ?_
          have h := HT.out
          rwa [List.take_of_length_le (by rw [HN.out]; exact Nat.le_refl _), List.take_of_length_le (by rw [HM.out]; exact Nat.le_refl _)] at h
        go_wp2
        go_ret
        exact ⟨by rw [hf]; rfl, HC.out⟩
  · have hf : r = false := by rw [← HR.out]; exact decide_eq_false (fun e => hl (by rw [e]))
    have hl' : ((s.length : Int) != (t.length : Int)) = true := by simp; omega
    clear hl
    go_enter Tryz.func38, Tryz.ntmps38
    go_wp2
    go_ret
    exact ⟨by rw [hf]; rfl, Chg.refl _ _⟩
end Go.Proofs.YtmbdpcamhkdkmaaGreatDoor

namespace Go.Proofs.YtmbdpcamhkdkmaaGreatDoor
open Go.RowKit
set_option linter.unusedVariables false
set_option linter.unusedSimpArgs false

theorem Blk.new2' (w : World) (o : Obj) (t : TypeId) (cs : Array Value) : Blk ((w.alloc o).alloc (.cells cs t)) (w.heap.size + 1) t cs := by
  have h := Blk.new (w.alloc o) t cs
  have e : (w.alloc o).heap.size = w.heap.size + 1 := Array.size_push ..
  rwa [e] at h
set_option maxRecDepth 100000 in
set_option maxHeartbeats 4000000 in
theorem same_any (w : World) (s s' : Sc) (va vb : Value) (ha : Rd w 5 va s.l.length (cellsV s.l)) (hb : Rd w 5 vb s'.l.length (cellsV s'.l)) (hl : s.l.length ≤ 1000000) :
    Calls Tryz.prog 13 #[scV s.r s.c va s.y s.x s.h s.t, scV s'.r s'.c vb s'.y s'.x s'.h s'.t] w fun e w' => e = .returned (.bool (decide (s = s'))) ∧ Chg w w' nob := by
  obtain ⟨r, c, l, y, x, h, t⟩ := s
  obtain ⟨r', c', l', y', x', h', t'⟩ := s'
  simp only at ha hb hl ⊢
  obtain ⟨a1, c1, rfl, _⟩ := ha.form
  obtain ⟨a2, c2, rfl, _⟩ := hb.form
  have HA := Lib.hid ha
  have HB := Lib.hid hb
  clear ha hb
  obtain ⟨q, hq⟩ : ∃ q, decide ((⟨r, c, l, y, x, h, t⟩ : Sc) = ⟨r', c', l', y', x', h', t'⟩) = q := ⟨_, rfl⟩
  have HQ := Lib.hid hq
  rw [hq]
  clear hq
  go_enter Tryz.func13, Tryz.ntmps13
  go_upto_region 1 with (fail)
  obtain ⟨w1, hw⟩ : ∃ W, (w.alloc (.cells (scA r c (.slice a1 l.length c1) y x h t) 24)).alloc (.cells (scA r' c' (.slice a2 l'.length c2) y' x' h' t') 24) = W := ⟨_, rfl⟩
  have hck : Chg w w1 nob := by rw [← hw]; exact ((Chg.refl w nob).alloc _).alloc _
  have h1 : Blk w1 w.heap.size 24 (scA r c (.slice a1 l.length c1) y x h t) := by rw [← hw]; exact (Blk.new w _ _).alloc _
  have h2 : Blk w1 (w.heap.size + 1) 24 (scA r' c' (.slice a2 l'.length c2) y' x' h' t') := by rw [← hw]; exact Blk.new2' w _ _ _
  rw [hw]
  have HC := Lib.hid hck
  have u0 := h1.cell 0
  have u1 := h1.cell 1
  have u2 := h1.cell 2
  have u3 := h1.cell 3
  have u4 := h1.cell 4
  have u5 := h1.cell 5
  have u6 := h1.cell 6
  simp only [List.getElem?_toArray, List.getElem?_cons_zero, List.getElem?_cons_succ] at u0 u1 u2 u3 u4 u5 u6
  have v0 := h2.cell 0
  have v1 := h2.cell 1
  have v2 := h2.cell 2
  have v3 := h2.cell 3
  have v4 := h2.cell 4
  have v5 := h2.cell 5
  have v6 := h2.cell 6
  simp only [List.getElem?_toArray, List.getElem?_cons_zero, List.getElem?_cons_succ] at v0 v1 v2 v3 v4 v5 v6
  have H1 := Lib.hid h1
  have H2 := Lib.hid h2
  clear hw hck h1 h2
  replace HA := Lib.hid (HA.out.kept HC.out (fun _ _ => id))
  replace HB := Lib.hid (HB.out.kept HC.out (fun _ _ => id))
  obtain ⟨b1, hb1⟩ : ∃ b, (r == r') = b := ⟨_, rfl⟩
  obtain ⟨b2, hb2⟩ : ∃ b, (c == c') = b := ⟨_, rfl⟩
  obtain ⟨b3, hb3⟩ : ∃ b, (y == y') = b := ⟨_, rfl⟩
  obtain ⟨b4, hb4⟩ : ∃ b, (x == x') = b := ⟨_, rfl⟩
  obtain ⟨b5, hb5⟩ : ∃ b, (h == h') = b := ⟨_, rfl⟩
  obtain ⟨b6, hb6⟩ : ∃ b, (t.toList == t'.toList) = b := ⟨_, rfl⟩
  obtain ⟨b7, hb7⟩ : ∃ b, decide (l = l') = b := ⟨_, rfl⟩
  have HF : Hid (q = (b1 && b2 && b3 && b4 && b5 && b6 && b7)) := Lib.hid (by
    rw [← HQ.out, ← hb1, ← hb2, ← hb3, ← hb4, ← hb5, ← hb6, ← hb7, Bool.eq_iff_iff]
    simp only [decide_eq_true_eq, Bool.and_eq_true, beq_iff_eq, Sc.mk.injEq]
    constructor
    · rintro ⟨rfl, rfl, rfl, rfl, rfl, rfl, rfl⟩; exact ⟨⟨⟨⟨⟨⟨rfl, rfl⟩, rfl⟩, rfl⟩, rfl⟩, rfl⟩, rfl⟩
    · rintro ⟨⟨⟨⟨⟨⟨rfl, rfl⟩, rfl⟩, rfl⟩, rfl⟩, h6⟩, rfl⟩
      exact ⟨rfl, rfl, rfl, rfl, rfl, rfl, toList_inj h6⟩)
  have HM := Lib.hid (scells_any w1 _ _ l l' HA.out HB.out hl)
  rw [hb7] at HM
  clear hb7 HQ
  cases b1
  · (go_wp2; go_ret; exact ⟨by rw [HF.out]; simp, HC.out⟩)
  cases b2
  · (go_wp2; go_ret; exact ⟨by rw [HF.out]; simp, HC.out⟩)
  go_wp2_with fail
  go_at_call 38
  refine HM.out.mono ?_
  rintro e w2 ⟨rfl, hck⟩
  have h1 := H1.out.kept hck (fun h => h)
  have h2 := H2.out.kept hck (fun h => h)
  clear u0 u1 u2 u3 u4 u5 u6 v0 v1 v2 v3 v4 v5 v6
  have u0 := h1.cell 0
  have u1 := h1.cell 1
  have u2 := h1.cell 2
  have u3 := h1.cell 3
  have u4 := h1.cell 4
  have u5 := h1.cell 5
  have u6 := h1.cell 6
  simp only [List.getElem?_toArray, List.getElem?_cons_zero, List.getElem?_cons_succ] at u0 u1 u2 u3 u4 u5 u6
  have v0 := h2.cell 0
  have v1 := h2.cell 1
  have v2 := h2.cell 2
  have v3 := h2.cell 3
  have v4 := h2.cell 4
  have v5 := h2.cell 5
  have v6 := h2.cell 6
  simp only [List.getElem?_toArray, List.getElem?_cons_zero, List.getElem?_cons_succ] at v0 v1 v2 v3 v4 v5 v6
  clear h1 h2
  replace HC := Lib.hid (HC.out.trans hck (fun _ _ h => h))
  clear hck HM
  cases b7
  · (go_wp2; go_ret; exact ⟨by rw [HF.out]; simp, HC.out⟩)
  cases b3
  · (go_wp2; go_ret; exact ⟨by rw [HF.out]; simp, HC.out⟩)
  cases b4
  · (go_wp2; go_ret; exact ⟨by rw [HF.out]; simp, HC.out⟩)
  cases b5
  · (go_wp2; go_ret; exact ⟨by rw [HF.out]; simp, HC.out⟩)
  cases b6
  · (go_wp2; go_ret; exact ⟨by rw [HF.out]; simp, HC.out⟩)
  (go_wp2; go_ret; exact ⟨by rw [HF.out]; simp, HC.out⟩)
set_option maxRecDepth 100000 in
set_option maxHeartbeats 4000000 in
theorem tsame_any (w : World) (s s' : Sc) (va vb : Value) (ha : Rd w 5 va s.l.length (cellsV s.l)) (hb : Rd w 5 vb s'.l.length (cellsV s'.l)) (hl : s.l.length ≤ 1000000) :
    Calls Tryz.prog 11 #[scV s.r s.c va s.y s.x s.h s.t, scV s'.r s'.c vb s'.y s'.x s'.h s'.t] w fun e w' => e = .returned (.bool (decide (s = s'))) ∧ Chg w w' nob := by
  obtain ⟨r, c, l, y, x, h, t⟩ := s
  obtain ⟨r', c', l', y', x', h', t'⟩ := s'
  simp only at ha hb hl ⊢
  obtain ⟨a1, c1, rfl, _⟩ := ha.form
  obtain ⟨a2, c2, rfl, _⟩ := hb.form
  have HA := Lib.hid ha
  have HB := Lib.hid hb
  clear ha hb
  obtain ⟨q, hq⟩ : ∃ q, decide ((⟨r, c, l, y, x, h, t⟩ : Sc) = ⟨r', c', l', y', x', h', t'⟩) = q := ⟨_, rfl⟩
  have HQ := Lib.hid hq
  rw [hq]
  clear hq
  go_enter Tryz.func11, Tryz.ntmps11
  go_upto_region 1 with (fail)
  obtain ⟨w1, hw⟩ : ∃ W, (w.alloc (.cells (scA r c (.slice a1 l.length c1) y x h t) 24)).alloc (.cells (scA r' c' (.slice a2 l'.length c2) y' x' h' t') 24) = W := ⟨_, rfl⟩
  have hck : Chg w w1 nob := by rw [← hw]; exact ((Chg.refl w nob).alloc _).alloc _
  have h1 : Blk w1 w.heap.size 24 (scA r c (.slice a1 l.length c1) y x h t) := by rw [← hw]; exact (Blk.new w _ _).alloc _
  have h2 : Blk w1 (w.heap.size + 1) 24 (scA r' c' (.slice a2 l'.length c2) y' x' h' t') := by rw [← hw]; exact Blk.new2' w _ _ _
  rw [hw]
  have HC := Lib.hid hck
  have u0 := h1.cell 0
  have u1 := h1.cell 1
  have u2 := h1.cell 2
  have u3 := h1.cell 3
  have u4 := h1.cell 4
  have u5 := h1.cell 5
  have u6 := h1.cell 6
  simp only [List.getElem?_toArray, List.getElem?_cons_zero, List.getElem?_cons_succ] at u0 u1 u2 u3 u4 u5 u6
  have v0 := h2.cell 0
  have v1 := h2.cell 1
  have v2 := h2.cell 2
  have v3 := h2.cell 3
  have v4 := h2.cell 4
  have v5 := h2.cell 5
  have v6 := h2.cell 6
  simp only [List.getElem?_toArray, List.getElem?_cons_zero, List.getElem?_cons_succ] at v0 v1 v2 v3 v4 v5 v6
  have H1 := Lib.hid h1
  have H2 := Lib.hid h2
  clear hw hck h1 h2
  replace HA := Lib.hid (HA.out.kept HC.out (fun _ _ => id))
  replace HB := Lib.hid (HB.out.kept HC.out (fun _ _ => id))
  obtain ⟨b1, hb1⟩ : ∃ b, (r == r') = b := ⟨_, rfl⟩
  obtain ⟨b2, hb2⟩ : ∃ b, (c == c') = b := ⟨_, rfl⟩
  obtain ⟨b3, hb3⟩ : ∃ b, (y == y') = b := ⟨_, rfl⟩
  obtain ⟨b4, hb4⟩ : ∃ b, (x == x') = b := ⟨_, rfl⟩
  obtain ⟨b5, hb5⟩ : ∃ b, (h == h') = b := ⟨_, rfl⟩
  obtain ⟨b6, hb6⟩ : ∃ b, (t.toList == t'.toList) = b := ⟨_, rfl⟩
  obtain ⟨b7, hb7⟩ : ∃ b, decide (l = l') = b := ⟨_, rfl⟩
  have HF : Hid (q = (b1 && b2 && b3 && b4 && b5 && b6 && b7)) := Lib.hid (by
    rw [← HQ.out, ← hb1, ← hb2, ← hb3, ← hb4, ← hb5, ← hb6, ← hb7, Bool.eq_iff_iff]
    simp only [decide_eq_true_eq, Bool.and_eq_true, beq_iff_eq, Sc.mk.injEq]
    constructor
    · rintro ⟨rfl, rfl, rfl, rfl, rfl, rfl, rfl⟩; exact ⟨⟨⟨⟨⟨⟨rfl, rfl⟩, rfl⟩, rfl⟩, rfl⟩, rfl⟩, rfl⟩
    · rintro ⟨⟨⟨⟨⟨⟨rfl, rfl⟩, rfl⟩, rfl⟩, rfl⟩, h6⟩, rfl⟩
      exact ⟨rfl, rfl, rfl, rfl, rfl, rfl, toList_inj h6⟩)
  have HM := Lib.hid (tcells_any w1 _ _ l l' HA.out HB.out hl)
  rw [hb7] at HM
  clear hb7 HQ
  cases b1
  · (go_wp2; go_ret; exact ⟨by rw [HF.out]; simp, HC.out⟩)
  cases b2
  · (go_wp2; go_ret; exact ⟨by rw [HF.out]; simp, HC.out⟩)
  cases b3
  · (go_wp2; go_ret; exact ⟨by rw [HF.out]; simp, HC.out⟩)
  cases b4
  · (go_wp2; go_ret; exact ⟨by rw [HF.out]; simp, HC.out⟩)
  cases b5
  · (go_wp2; go_ret; exact ⟨by rw [HF.out]; simp, HC.out⟩)
  cases b6
  · (go_wp2; go_ret; exact ⟨by rw [HF.out]; simp, HC.out⟩)
  go_wp2_with fail
  go_at_call 34
  refine HM.out.mono ?_
  rintro e w2 ⟨rfl, hck⟩
  have h1 := H1.out.kept hck (fun h => h)
  have h2 := H2.out.kept hck (fun h => h)
  clear u0 u1 u2 u3 u4 u5 u6 v0 v1 v2 v3 v4 v5 v6
  have u0 := h1.cell 0
  have u1 := h1.cell 1
  have u2 := h1.cell 2
  have u3 := h1.cell 3
  have u4 := h1.cell 4
  have u5 := h1.cell 5
  have u6 := h1.cell 6
  simp only [List.getElem?_toArray, List.getElem?_cons_zero, List.getElem?_cons_succ] at u0 u1 u2 u3 u4 u5 u6
  have v0 := h2.cell 0
  have v1 := h2.cell 1
  have v2 := h2.cell 2
  have v3 := h2.cell 3
  have v4 := h2.cell 4
  have v5 := h2.cell 5
  have v6 := h2.cell 6
  simp only [List.getElem?_toArray, List.getElem?_cons_zero, List.getElem?_cons_succ] at v0 v1 v2 v3 v4 v5 v6
  clear h1 h2
  replace HC := Lib.hid (HC.out.trans hck (fun _ _ h => h))
  clear hck HM
  cases b7
  · (go_wp2; go_ret; exact ⟨by rw [HF.out]; simp, HC.out⟩)
  (go_wp2; go_ret; exact ⟨by rw [HF.out]; simp, HC.out⟩)
end Go.Proofs.YtmbdpcamhkdkmaaGreatDoor

namespace Go.Proofs.YtmbdpcamhkdkmaaGreatDoor
open Go.RowKit
set_option linter.unusedVariables false
set_option linter.unusedSimpArgs false

def Ce.blank : Ce := ⟨32, 0, 0, 0, 0⟩
set_option maxRecDepth 100000 in
set_option maxHeartbeats 4000000 in
theorem blank_ok (w : World) (rn cn : Nat) (h : 1 ≤ rn ∧ rn ≤ 60 ∧ 1 ≤ cn ∧ cn ≤ 200) : Calls Tryz.prog 12 #[.int .i64 rn, .int .i64 cn] w fun e w' =>
    ∃ v, e = .returned (.tuple #[scV rn cn v 0 0 false ByteArray.empty, .int .i64 0]) ∧ Own w' 47 5 v (rn * cn) (cellsV (List.replicate (rn * cn) .blank)) ∧ Chg w w' nob ∧ ∀ k, blkOf v k → w.heap.size ≤ k := by
  obtain ⟨h1, h2, h3, h4⟩ := h
  have hft : Hid (fitsF rn cn = true) := Lib.hid (by simp [fitsF]; omega)
  have hm1 : rn * cn ≤ 60 * 200 := Nat.mul_le_mul (by omega) (by omega)
  have hm2 : 1 * 1 ≤ rn * cn := Nat.mul_le_mul (by omega) (by omega)
  obtain ⟨m, hm⟩ : ∃ m, rn * cn = m := ⟨_, rfl⟩
  have hmm : (rn : Int) * (cn : Int) = (m : Int) := by rw [← hm]; simp
  have hw : IntKind.i64.wrap ((rn : Int) * (cn : Int)) = (m : Int) := by rw [hmm]; simp only [IntKind.wrap, IntKind.bits, IntKind.signed]; simp; omega
  rw [hm] at hm1 hm2 ⊢
  clear hm hmm
  go_enter Tryz.func12, Tryz.ntmps12
  go_wp2_with fail
  go_at_call 35
  refine (fits_any _ rn cn).mono ?_
  rw [hft.out]
  rintro e w1 ⟨rfl, rfl⟩
  go_wp2_with fail
  go_at_call 37
  refine (blankc_any _ 0 0 0).mono ?_
  simp only [Ce.val]
  rintro e w2 ⟨rfl, hc2⟩
  have hb2 := (Blk.new w 24 _).kept hc2 id
  have HC2 : Hid (Chg w w2 nob) := Lib.hid (((Chg.refl w nob).alloc _).trans hc2 (fun _ _ h => h))
  clear hc2
  go_wp2_with fail
  go_at_call 36
  refine (repeat_any _ .blank _ m (Rd.made w2 47 #[.int .i32 32, .int .i64 0, .int .i64 0, .int .i64 0, .int .i64 0] (size := 5) (n := 1) (c := 1) rfl (Nat.le_refl _)) (by omega) (by omega)).mono ?_
  rintro e w3 ⟨v, rfl, ho, hc3, hf3⟩
  have hb3 := (hb2.alloc (.cells #[.int .i32 32, .int .i64 0, .int .i64 0, .int .i64 0, .int .i64 0] 47)).kept hc3 id
  have HC3 : Hid (Chg w w3 nob) := Lib.hid (HC2.out.trans (((Chg.refl w2 nob).alloc _).trans hc3 (fun _ _ h => h)) (fun _ _ h => h))
  have HO := Lib.hid ho
  have HF := Lib.hid hf3
  have HB3 := Lib.hid hb3
  clear hb2 hb3 hc3 ho hf3
  obtain ⟨av, cv, rfl, _⟩ := HO.out.form
  have hb := HB3.out
  have u0 := hb.cell 0
  have u1 := hb.cell 1
  have u2 := hb.cell 2
  have u3 := hb.cell 3
  have u4 := hb.cell 4
  have u5 := hb.cell 5
  have u6 := hb.cell 6
  simp only [List.getElem?_toArray, List.getElem?_cons_zero, List.getElem?_cons_succ] at u0 u1 u2 u3 u4 u5 u6
  have f0 := hb.free 0
  have f1 := hb.free 1
  have f2 := hb.free 2
  have f3 := hb.free 3
  have f4 := hb.free 4
  have f5 := hb.free 5
  have f6 := hb.free 6
  have hbz := hb.laid [.int .i64 rn, .int .i64 cn, .slice av m cv, .int .i64 0, .int .i64 0, .bool false, .string ⟨#[]⟩] rfl
  have hcz := Chg.cells w3 w.heap.size [.int .i64 rn, .int .i64 cn, .slice av m cv, .int .i64 0, .int .i64 0, .bool false, .string ⟨#[]⟩] 0
  have hoz := HO.out.kept hcz (fun k hk e => by subst e; exact HO.out.ne hb (by decide) hk)
  have HBZ := Lib.hid hbz
  have HCZ := Lib.hid (HC3.out.trans hcz (fun i hi e => by subst e; exact absurd hi (Nat.lt_irrefl _)))
  have HOZ := Lib.hid hoz
  clear hb hbz hcz hoz
  go_wp2_with fail
  generalize hwz : World.setCell _ _ (Value.string _) = wz
  have hwz' : w3.setCells w.heap.size 0 [.int .i64 rn, .int .i64 cn, .slice av m cv, .int .i64 0, .int .i64 0, .bool false, .string ⟨#[]⟩] = wz := hwz
  rw [hwz'] at HBZ HCZ HOZ
  clear hwz hwz' u0 u1 u2 u3 u4 u5 u6 f0 f1 f2 f3 f4 f5 f6
  have hb := HBZ.out
  have u0 := hb.cell 0
  have u1 := hb.cell 1
  have u2 := hb.cell 2
  have u3 := hb.cell 3
  have u4 := hb.cell 4
  have u5 := hb.cell 5
  have u6 := hb.cell 6
  simp only [List.getElem?_toArray, List.getElem?_cons_zero, List.getElem?_cons_succ] at u0 u1 u2 u3 u4 u5 u6
  clear hb
  refine bodyPost_ret (v := .tuple #[.agg #[.int .i64 rn, .int .i64 cn, .slice av m cv, .int .i64 0, .int .i64 0, .bool false, .string ⟨#[]⟩], .int .i64 0]) (by simp [results, Tryz.results12, go_sem, u0, u1, u2, u3, u4, u5, u6]) rfl ?_
  exact ⟨_, rfl, HOZ.out, HCZ.out, fun k hk => Nat.le_trans (Nat.le_trans HC2.out.size (Nat.le_succ _)) (by have := HF.out k hk; simpa using this)⟩
set_option maxRecDepth 100000 in
set_option maxHeartbeats 4000000 in
theorem blank_no (w : World) (r c : Int) (h : ¬ (1 ≤ r ∧ r ≤ 60 ∧ 1 ≤ c ∧ c ≤ 200)) : Calls Tryz.prog 12 #[.int .i64 r, .int .i64 c] w fun e w' =>
    e = .returned (.tuple #[scV 0 0 (.slice none 0 0) 0 0 false ByteArray.empty, .int .i64 1]) ∧ Chg w w' nob := by
  have hft : Hid (fitsF r c = false) := Lib.hid (by simp [fitsF]; omega)
  clear h
  go_enter Tryz.func12, Tryz.ntmps12
  go_wp2_with fail
  go_at_call 35
  refine (fits_any _ r c).mono ?_
  rw [hft.out]
  rintro e w1 ⟨rfl, rfl⟩
  go_wp2_with fail
  refine bodyPost_ret (v := .tuple #[.agg #[.int .i64 0, .int .i64 0, .slice none 0 0, .int .i64 0, .int .i64 0, .bool false, .string ⟨#[]⟩], .int .i64 1]) (by simp [results, Tryz.results12, go_sem]) rfl ?_
  exact ⟨rfl, (Chg.refl w nob).alloc _⟩
end Go.Proofs.YtmbdpcamhkdkmaaGreatDoor

namespace Go.Proofs.YtmbdpcamhkdkmaaGreatDoor
open Go.RowKit
set_option linter.unusedVariables false
set_option linter.unusedSimpArgs false

theorem varL_small {n : Nat} (h : n < 128) : varL n = [(n : Int)] := varL_lt h
theorem title_empty : titleF ByteArray.empty = true := by decide
theorem may_first : mayS 1 2 (List.replicate 2 .blank) 0 0 ByteArray.empty = true := by
  unfold mayS
  rw [title_empty]
  decide
theorem numsS_empty : numsS ByteArray.empty = [] := rfl
theorem key_first : keyL 1 2 (List.replicate 2 .blank) 0 0 false ByteArray.empty = [1, 2, 0, 0, 0, 0, 2, 32, 0, 0, 0, 0] := by
  have hr : runsL (List.replicate 2 Ce.blank) = varsL (ceN 2 .blank) := by
    show runsL [Ce.blank, Ce.blank] = _
    rw [runsL]
    have e : runLen Ce.blank [Ce.blank] = 1 := by decide
    rw [e]
    simp [runsL]
  rw [keyL, hr, numsS_empty]
  have e1 : headN 1 2 0 0 false ByteArray.empty = [1, 2, 0, 0, 0, 0] := by decide
  have e2 : ceN 2 Ce.blank = [2, 32, 0, 0, 0, 0] := by decide
  rw [e1, e2]
  simp [varsL, varL_small]
set_option maxRecDepth 100000 in
set_option maxHeartbeats 4000000 in
theorem few_any (w : World) (r c y x : Int) (h : Bool) (t : ByteArray) (va : Value) (n : Nat) (hn : ∃ a cap, va = .slice a n cap) :
    Calls Tryz.prog 5 #[scV r c va y x h t] w fun e w' => e = .returned (.bool (decide (n ≤ 3000) && decide (t.size ≤ 3000))) ∧ Chg w w' nob := by
  obtain ⟨a, cap, rfl⟩ := hn
  obtain ⟨b1, h1⟩ : ∃ b, decide (n ≤ 3000) = b := ⟨_, rfl⟩
  obtain ⟨b2, h2⟩ : ∃ b, decide (t.size ≤ 3000) = b := ⟨_, rfl⟩
  rw [h1, h2]
  go_enter Tryz.func5, Tryz.ntmps5
  rcases (show (n ≤ 3000 ∧ t.size ≤ 3000) ∨ (n ≤ 3000 ∧ 3000 < t.size) ∨ 3000 < n by omega) with ⟨h3, h4⟩ | ⟨h3, h4⟩ | h3
  · obtain rfl : b1 = true := by rw [← h1]; simp [h3]
    obtain rfl : b2 = true := by rw [← h2]; simp [h4]
    have i1 : (n : Int) ≤ 3000 := by omega
    have i2 : (t.size : Int) ≤ 3000 := by omega
    clear h1 h2
    go_wp2
    go_ret
    exact ⟨rfl, (Chg.refl w nob).alloc _⟩
  · obtain rfl : b1 = true := by rw [← h1]; simp [h3]
    obtain rfl : b2 = false := by rw [← h2]; simp; omega
    have i1 : (n : Int) ≤ 3000 := by omega
    have i2 : ¬ (t.size : Int) ≤ 3000 := by omega
    clear h1 h2
    go_wp2
    go_ret
    exact ⟨rfl, (Chg.refl w nob).alloc _⟩
  · obtain rfl : b1 = false := by rw [← h1]; simp; omega
    have i1 : ¬ (n : Int) ≤ 3000 := by omega
    clear h1 h2
    go_wp2
    go_ret
    exact ⟨rfl, (Chg.refl w nob).alloc _⟩
end Go.Proofs.YtmbdpcamhkdkmaaGreatDoor

namespace Go.Proofs.YtmbdpcamhkdkmaaGreatDoor
open Go.RowKit
set_option linter.unusedVariables false
set_option linter.unusedSimpArgs false

theorem key_long {s : Sc} (h : s.may = true) : 7 ≤ s.key.length := by
  obtain ⟨⟨r1, _⟩, ⟨c1, _⟩, _, _, hl, _, _⟩ := Sc.may_b h
  have h1 : (1 : Int) * 1 ≤ s.r * s.c := Int.mul_le_mul r1 c1 (by decide) (by omega)
  have h2 : 0 < (runsL s.l).length := by
    cases hs : s.l with
    | nil => rw [hs] at hl; simp only [List.length_nil] at hl; omega
    | cons c t =>
      rw [runsL]
      have h3 := varL_pos' (u64N ((runLen c t + 1 : Nat) : Int))
      simp only [varsL, ceN, List.flatMap_cons, List.length_append]
      omega
  rw [key_eq]
  have a1 := varL_pos' (u64N s.r)
  have a2 := varL_pos' (u64N s.c)
  have a3 := varL_pos' (u64N s.y)
  have a4 := varL_pos' (u64N s.x)
  have a5 := varL_pos' (bitN s.h)
  have a6 := varL_pos' (u64N (s.t.size : Int))
  simp only [List.length_append]
  omega
theorem key_cut {s : Sc} (h : s.may = true) {k : Nat} (hk : k < s.key.length) : decQ 256 (s.key.take k) = none := by
  cases hd : decQ 256 (s.key.take k) with
  | none => rfl
  | some t =>
    obtain ⟨h1, h2⟩ := decQ_back (by decide) (fun x hx => key_byte s x (List.mem_of_mem_take hx)) hd
    have h3 : s.key = t.key ++ s.key.drop k := by rw [← h1, List.take_append_drop]
    obtain ⟨_, h4⟩ := key_inj h h2 h3
    have := congrArg List.length h4
    simp at this
    omega
theorem key_same {s t : Sc} (hs : s.may = true) (ht : t.may = true) : decide (s.key = t.key) = decide (s = t) := by
  rw [Bool.eq_iff_iff, decide_eq_true_iff, decide_eq_true_iff]
  exact ⟨fun h => (key_inj hs ht (m := []) (by simpa using h)).1, fun h => by rw [h]⟩
abbrev scS (s : Sc) (v : Value) : Value := scV s.r s.c v s.y s.x s.h s.t
theorem kenc_sc (w : World) (s : Sc) (va : Value) (ha : Rd w 5 va s.l.length (cellsV s.l)) (hl : s.l.length ≤ 100000) (hs : s.t.size ≤ 100000) (ht : Tab w) :
    Calls Tryz.prog 15 #[scS s va] w fun e w' => ∃ v, e = .returned (.tuple #[v, .int .i64 (encE s.may)]) ∧ Bx w w' v (if s.may = true then s.key else []) :=
  kenc_any w s.r s.c s.y s.x s.h s.t va s.l ha hl hs ht
theorem may_sc (w : World) (s : Sc) (va : Value) (ha : Rd w 5 va s.l.length (cellsV s.l)) (hl : s.l.length ≤ 1000000) (hs : s.t.size ≤ 1000000) (ht : Tab w) :
    Calls Tryz.prog 14 #[scS s va] w fun e w' => e = .returned (.bool s.may) ∧ Chg w w' nob :=
  mayscr_any w s.r s.c s.y s.x s.h s.t va s.l ha hl hs ht
end Go.Proofs.YtmbdpcamhkdkmaaGreatDoor
