/-
  Chapter 14: Make, Apply over screens that may be; first.
  DiffSmall, the plain part: one cell's flag turned: the screen still may be, the text is short.
-/
import Derived.Test.YtiojhfaeeelfeaaDoorDiff7M
import Derived.Test.YtiojhfaeeelfeaaDoorMg24
import Derived.Test.YtiojhfaeeelfeaaDoorMg22
namespace Go.Proofs.YtiojhfaeeelfeaaDoor
open Go.RowKit
set_option linter.unusedVariables false
set_option linter.unusedSimpArgs false

theorem Sc.may_len {s : Sc} (h : s.may = true) : s.l.length ≤ 12000 ∧ s.t.size ≤ 256 ∧ 1 ≤ s.l.length := by
  obtain ⟨⟨p1, q1⟩, ⟨p2, q2⟩, ⟨_, _⟩, ⟨_, _⟩, q3, _, q4⟩ := Sc.may_b h
  have h1 : s.r * s.c ≤ 60 * 200 := Int.mul_le_mul q1 q2 (by omega) (by omega)
  have h2 : (1 : Int) * 1 ≤ s.r * s.c := Int.mul_le_mul p1 p2 (by decide) (by omega)
  exact ⟨by omega, q4, by omega⟩
theorem dmake_ok (w : World) (a b : Sc) (va vb : Value) (ha : Rd w 5 va a.l.length (cellsV a.l)) (hb : Rd w 5 vb b.l.length (cellsV b.l)) (hma : a.may = true) (hmb : b.may = true) (ht : Tab w) :
    Calls Tryd.prog 24 #[scS a va, scS b vb] w fun e w' => ∃ x n, e = .returned (.tuple #[.slice x (diffL a b).length n, .int .i64 0]) ∧ By w' (.slice x (diffL a b).length n) (diffL a b) ∧ Chg w w' nob := by
  have h1 := Sc.may_len hma
  have h2 := Sc.may_len hmb
  have h := dmake_any w a b va vb ha hb (by omega) (by omega) (by omega) (by omega) ht
  rw [hma, hmb] at h
  refine h.mono ?_
  rintro e w' ⟨v, rfl, hbx⟩
  have hby := By.ofBx (show Bx w w' v (diffL a b) from hbx) (diffL_b a b)
  obtain ⟨x, n, rfl, _⟩ := hby.form
  exact ⟨x, n, rfl, hby, hbx.2.1⟩
/-- Apply of the one text that makes b. -/
theorem dapply_ok (w : World) (a b : Sc) (va vd : Value) (ha : Rd w 5 va a.l.length (cellsV a.l)) (hma : a.may = true) (hmb : b.may = true) (hd : By w vd (diffL a b)) (ht : Tab w) :
    Calls Tryd.prog 25 #[scS a va, vd] w fun e w' => ∃ x n, e = .returned (.tuple #[scS b (.slice x b.l.length n), .int .i64 0]) ∧ Cs w w' (.slice x b.l.length n) b.l ∧ Chg w w' nob := by
  have h1 := Sc.may_len hma
  have h2 := Sc.may_len hmb
  have hlen : (diffL a b).length ≤ 1000000 := by
    have h3 := keyD_len b
    have h4 := headD_len b
    have h5 := strL_len a.l.length 0 a.l b.l (Nat.le_refl _) (by omega)
    unfold diffL
    split
    · simp only [List.length_cons]; omega
    · simp only [List.length_cons, List.length_append]; omega
  refine (dapply_any w a va ha (by omega) (by omega) vd _ hd hlen ht).mono ?_
  rintro e w' ⟨hc, h⟩
  cases h with
  | range h he => rw [hma] at h; cases h
  | none h hq he => rw [applyQ_there hma hmb] at hq; cases hq
  | some s x n h hq he hcs =>
    rw [applyQ_there hma hmb] at hq
    cases hq
    exact ⟨x, n, he, hcs, hc⟩
def blankS : Sc := ⟨1, 2, List.replicate 2 .blank, 0, 0, false, ByteArray.empty⟩
theorem diff_first : diffL blankS blankS = [0, 0, 0, 0, 0] := by
  have h1 : varL 0 = [0] := by rw [varL_lt (by decide)]; rfl
  have e : headD blankS = varL 0 ++ (varL 0 ++ (varL 0 ++ (varL 0 ++ []))) := rfl
  unfold diffL
  rw [if_neg (by simp), e, h1]
  show 0 :: ([0] ++ ([0] ++ ([0] ++ ([0] ++ []))) ++ strL 0 [Ce.blank, Ce.blank] [Ce.blank, Ce.blank]) = _
  rw [strL_same, strL_same, strL_nil]
  rfl
theorem blank12 (w : World) : Calls Tryd.prog 27 #[.int .i64 1, .int .i64 2] w fun e w' => ∃ a n, e = .returned (.tuple #[scS blankS (.slice a blankS.l.length n), .int .i64 0]) ∧ Cs w w' (.slice a blankS.l.length n) blankS.l ∧ Chg w w' nob := by
  refine (blank_ok w 1 2 (by decide)).mono ?_
  rintro e w' ⟨v, rfl, ho, hc, hf⟩
  obtain ⟨a, n, rfl, _⟩ := ho.form
  exact ⟨a, n, rfl, ⟨ho, hf⟩, hc⟩
theorem blank_may : blankS.may = true := may_first
theorem same_scs (w : World) (s : Sc) (va vb : Value) (ha : Rd w 5 va s.l.length (cellsV s.l)) (hb : Rd w 5 vb s.l.length (cellsV s.l)) (hl : s.l.length ≤ 1000000) :
    Calls Tryd.prog 21 #[scS s va, scS s vb] w fun e w' => e = .returned (.bool true) ∧ Chg w w' nob := by
  refine (same_any w s s va vb ha hb hl).mono ?_
  rintro e w' ⟨rfl, hc⟩
  exact ⟨by simp, hc⟩
set_option maxRecDepth 100000 in
set_option maxHeartbeats 4000000 in
theorem dfirst_any (w : World) (ht : Tab w) : Calls Tryd.prog 23 #[] w fun e w' => e = .returned (.bool true) ∧ Chg w w' nob := by
  have HT := Lib.hid ht
  obtain ⟨b0, hb0⟩ : ∃ b, blankS = b := ⟨_, rfl⟩
  have HM : Hid (b0.may = true) := Lib.hid (by rw [← hb0]; exact blank_may)
  have hll := (Sc.may_len HM.out).1
  have HDF : Hid (diffL b0 b0 = [0, 0, 0, 0, 0]) := Lib.hid (by rw [← hb0]; exact diff_first)
  have HBL := Lib.hid (blank12 w)
  rw [hb0] at HBL
  clear ht hb0
  go_enter Tryd.func23, Tryd.ntmps23
  go_wp2_with fail
  go_at_call 27
  refine HBL.out.mono ?_
  rintro e w1 ⟨a1, n1, rfl, hcs, hck⟩
  have HC := Lib.hid hck
  go_upto_region 2 with (fail)
  obtain ⟨w2, hw⟩ : ∃ W, w1.alloc (.cells (scL b0 (.slice a1 b0.l.length n1)) 26) = W := ⟨_, rfl⟩
  have hck2 : Chg w1 w2 nob := by rw [← hw]; exact (Chg.refl w1 nob).alloc _
  have HX : Hid (Blk w2 w1.heap.size 26 (scL b0 (.slice a1 b0.l.length n1))) := Lib.hid (by rw [← hw]; exact Blk.new w1 _ _)
  have HS := Lib.hid (hcs.kept hck2)
  rw [hw]
  clear hw hcs hck HBL
  obtain ⟨ix, hix⟩ : ∃ i, w1.heap.size = i := ⟨_, rfl⟩
  rw [hix] at HX ⊢
  clear hix
  replace HC := Lib.hid (HC.out.trans hck2 (fun _ _ h => h))
  clear hck2
  have x0 := HX.out.cell 0
  have x1 := HX.out.cell 1
  have x2 := HX.out.cell 2
  have x3 := HX.out.cell 3
  have x4 := HX.out.cell 4
  have x5 := HX.out.cell 5
  have x6 := HX.out.cell 6
  simp only [List.getElem?_toArray, List.getElem?_cons_zero, List.getElem?_cons_succ] at x0 x1 x2 x3 x4 x5 x6
  have HMK := Lib.hid (dmake_ok w2 b0 b0 _ _ HS.out.1.rd HS.out.1.rd HM.out HM.out (HT.out.kept HC.out))
  obtain ⟨D, hD⟩ : ∃ D, diffL b0 b0 = D := ⟨_, rfl⟩
  rw [hD] at HMK HDF
  go_wp2_with fail
  go_at_call 24
  refine HMK.out.mono ?_
  rintro e w3 ⟨ad, nd, rfl, hby, hck⟩
  have HD := Lib.hid hby
  replace HX := Lib.hid (HX.out.kept hck id)
  replace HS := Lib.hid (HS.out.kept hck)
  replace HC := Lib.hid (HC.out.trans hck (fun _ _ h => h))
  clear hby hck HMK x0 x1 x2 x3 x4 x5 x6
  have x0 := HX.out.cell 0
  have x1 := HX.out.cell 1
  have x2 := HX.out.cell 2
  have x3 := HX.out.cell 3
  have x4 := HX.out.cell 4
  have x5 := HX.out.cell 5
  have x6 := HX.out.cell 6
  simp only [List.getElem?_toArray, List.getElem?_cons_zero, List.getElem?_cons_succ] at x0 x1 x2 x3 x4 x5 x6
  have HAP := Lib.hid (dapply_ok w3 b0 b0 _ (.slice ad D.length nd) HS.out.1.rd HM.out HM.out (by rw [hD]; exact HD.out) (HT.out.kept HC.out))
  clear hD
  go_wp2_with fail
  go_at_call 25
  refine HAP.out.mono ?_
  rintro e w4 ⟨a2, n2, rfl, hcs, hck⟩
  replace HX := Lib.hid (HX.out.kept hck id)
  replace HS := Lib.hid (HS.out.kept hck)
  replace HD := Lib.hid (HD.out.kept hck)
  replace HC := Lib.hid (HC.out.trans hck (fun _ _ h => h))
  clear hck HAP x0 x1 x2 x3 x4 x5 x6
  go_upto_region 4 with (fail)
  obtain ⟨w5, hw⟩ : ∃ W, w4.alloc (.cells (scL b0 (.slice a2 b0.l.length n2)) 26) = W := ⟨_, rfl⟩
  have hck : Chg w4 w5 nob := by rw [← hw]; exact (Chg.refl w4 nob).alloc _
  have HY : Hid (Blk w5 w4.heap.size 26 (scL b0 (.slice a2 b0.l.length n2))) := Lib.hid (by rw [← hw]; exact Blk.new w4 _ _)
  have HS2 := Lib.hid (hcs.kept hck)
  rw [hw]
  clear hw hcs
  obtain ⟨iy, hiy⟩ : ∃ i, w4.heap.size = i := ⟨_, rfl⟩
  rw [hiy] at HY ⊢
  clear hiy
  replace HX := Lib.hid (HX.out.kept hck id)
  replace HS := Lib.hid (HS.out.kept hck)
  replace HD := Lib.hid (HD.out.kept hck)
  replace HC := Lib.hid (HC.out.trans hck (fun _ _ h => h))
  clear hck
  have HBY : Hid (By w5 (.slice ad D.length nd) D) := HD
  go_wp2_with fail
  go_at_call 22
  have hlit := By.lit w5 [0, 0, 0, 0, 0] (by decide)
  refine (bytes_by (HBY.out.alloc _) hlit).mono ?_
  rw [decide_eq_true HDF.out]
  rintro e w6 ⟨rfl, hw6⟩
  have hck : Chg w5 w6 nob := by rw [← hw6]; exact (Chg.refl w5 nob).alloc _
  clear hw6 hlit
  replace HX := Lib.hid (HX.out.kept hck id)
  replace HY := Lib.hid (HY.out.kept hck id)
  replace HS := Lib.hid (HS.out.kept hck)
  replace HS2 := Lib.hid (HS2.out.kept hck)
  replace HC := Lib.hid (HC.out.trans hck (fun _ _ h => h))
  clear hck
  have x0 := HX.out.cell 0
  have x1 := HX.out.cell 1
  have x2 := HX.out.cell 2
  have x3 := HX.out.cell 3
  have x4 := HX.out.cell 4
  have x5 := HX.out.cell 5
  have x6 := HX.out.cell 6
  simp only [List.getElem?_toArray, List.getElem?_cons_zero, List.getElem?_cons_succ] at x0 x1 x2 x3 x4 x5 x6
  have y0 := HY.out.cell 0
  have y1 := HY.out.cell 1
  have y2 := HY.out.cell 2
  have y3 := HY.out.cell 3
  have y4 := HY.out.cell 4
  have y5 := HY.out.cell 5
  have y6 := HY.out.cell 6
  simp only [List.getElem?_toArray, List.getElem?_cons_zero, List.getElem?_cons_succ] at y0 y1 y2 y3 y4 y5 y6
  go_wp2_with fail
  go_at_call 21
  refine (same_scs w6 b0 _ _ HS.out.1.rd HS2.out.1.rd (by omega)).mono ?_
  rintro e w7 ⟨rfl, hck⟩
  replace HC := Lib.hid (HC.out.trans hck (fun _ _ h => h))
  clear hck
  go_wp2
  go_ret
  exact ⟨rfl, HC.out⟩
end Go.Proofs.YtiojhfaeeelfeaaDoor

namespace Go.Proofs.YtiojhfaeeelfeaaDoor
open Go.RowKit
set_option linter.unusedVariables false
set_option linter.unusedSimpArgs false

set_option maxRecDepth 100000 in
theorem xor4 : ∀ k : Fin 256, (0 ≤ bits .xor .i64 ((k.val : Nat) : Int) 4 ∧ bits .xor .i64 ((k.val : Nat) : Int) 4 ≤ 255) ∧ bits .xor .i64 ((k.val : Nat) : Int) 4 ≠ ((k.val : Nat) : Int) := by decide
theorem xor4' {f : Int} (h : 0 ≤ f ∧ f ≤ 255) : (0 ≤ bits .xor .i64 f 4 ∧ bits .xor .i64 f 4 ≤ 255) ∧ bits .xor .i64 f 4 ≠ f := by
  have h1 := xor4 ⟨f.toNat, by omega⟩
  simp only at h1
  rwa [Int.toNat_of_nonneg h.1] at h1
def Ce.fl (c : Ce) (f : Int) : Ce := ⟨c.r, f, c.g, c.b, c.w⟩
theorem Ce.fl_may {c : Ce} (h : c.may = true) {f : Int} (hf : 0 ≤ f ∧ f ≤ 255) : (c.fl f).may = true := by
  unfold Ce.may mayF Ce.fl at *
  simp only [Bool.and_eq_true, decide_eq_true_eq] at h ⊢
  exact ⟨h.1, ⟨hf, h.2.1.2⟩, h.2.2⟩
theorem getD_set_w {l : List Ce} {k : Nat} {c : Ce} (hk : l[k]? = some c) (f : Int) (j : Nat) : ((l.set k (c.fl f)).getD j .z).w = (l.getD j .z).w := by
  by_cases h : k = j
  · subst h
    have hl := (List.getElem?_eq_some_iff.1 hk).1
    simp only [List.getD, hk, List.getElem?_set_self hl, Option.getD_some]
    rfl
  · simp only [List.getD, List.getElem?_set_ne h]
theorem set_may {s : Sc} (h : s.may = true) {k : Nat} {c : Ce} (hk : s.l[k]? = some c) {f : Int} (hf : 0 ≤ f ∧ f ≤ 255) : ({ s with l := s.l.set k (c.fl f) } : Sc).may = true := by
  unfold Sc.may mayS mendF at *
  simp only [Bool.and_eq_true, List.length_set] at h ⊢
  obtain ⟨⟨⟨h1, h2⟩, h3⟩, h4⟩ := h
  refine ⟨⟨⟨h1, ?_⟩, h3⟩, h4⟩
  rw [List.all_eq_true] at h2 ⊢
  intro j hj
  have h5 := h2 j hj
  unfold okC at h5 ⊢
  rw [getD_set_w hk, getD_set_w hk, getD_set_w hk]
  rw [Bool.and_eq_true] at h5 ⊢
  refine ⟨?_, h5.2⟩
  by_cases he : k = j
  · subst he
    have hl := (List.getElem?_eq_some_iff.1 hk).1
    have h6 := h5.1
    simp only [List.getD, hk, List.getElem?_set_self hl, Option.getD_some] at h6 ⊢
    exact Ce.fl_may h6 hf
  · have h6 := h5.1
    simpa only [List.getD, List.getElem?_set_ne he] using h6
theorem strL_refl : ∀ (gap : Nat) (s : List Ce), strL gap s s = []
  | _, [] => strL_nil _ _
  | gap, a :: s => by rw [strL_same]; exact strL_refl (gap + 1) s
theorem difLen_refl : ∀ s : List Ce, difLen s s = 0
  | [] => rfl
  | a :: s => by rw [difLen, if_pos rfl]
theorem strL_one : ∀ (gap k : Nat) (s : List Ce) (c d : Ce), s[k]? = some c → c ≠ d → strL gap s (s.set k d) = varL (gap + k) ++ (varL 1 ++ (runsL [d] ++ []))
  | _, _, [], _, _, h, _ => by simp at h
  | gap, 0, a :: s, c, d, h, hne => by
    simp at h
    subst h
    rw [List.set_cons_zero, strL_other hne, difLen_refl]
    simp only [Nat.zero_add, Nat.add_zero, List.take_zero, List.drop_zero, strL_refl]
  | gap, k + 1, a :: s, c, d, h, hne => by
    rw [List.set_cons_succ, strL_same, strL_one (gap + 1) k s c d (by simpa using h) hne, show gap + 1 + k = gap + (k + 1) by omega]
theorem diff_small {s : Sc} (h : s.may = true) {k : Nat} {c : Ce} (hk : s.l[k]? = some c) {f : Int} (hf : 0 ≤ f ∧ f ≤ 255) (hne : f ≠ c.f) : (diffL s { s with l := s.l.set k (c.fl f) }).length ≤ 32 + s.t.size := by
  obtain ⟨⟨r1, r2⟩, ⟨c1, c2⟩, ⟨y1, y2⟩, ⟨x1, x2⟩, hl, hc, ht⟩ := Sc.may_b h
  have hkl := (List.getElem?_eq_some_iff.1 hk).1
  have hl2 := (Sc.may_len h).1
  have hcm := hc c (List.mem_of_getElem? hk)
  obtain ⟨⟨cr1, cr2⟩, _, ⟨g1, g2⟩, ⟨b1, b2⟩, ⟨w1, w2⟩⟩ := may_b hcm
  unfold diffL
  rw [if_neg (by simp), strL_one 0 k s.l c (c.fl f) hk (fun e => hne (by rw [e]; rfl))]
  have hrun : runsL [c.fl f] = varsL (ceN 1 (c.fl f)) := by
    rw [runsL]
    simp [runLen, runsL]
  rw [hrun]
  simp only [headD, varsL, ceN, List.flatMap_cons, List.flatMap_nil, List.length_cons, List.length_append, List.length_nil, numsS_len, Ce.fl]
  have e1 : u64N (1 : Nat) = 1 := by rw [u64N_toNat (by decide) (by decide)]; rfl
  rw [e1, u64N_toNat (n := s.y) (by omega) (by omega), u64N_toNat (n := s.x) (by omega) (by omega), u64N_toNat (n := (s.t.size : Int)) (by omega) (by omega), u64N_toNat (n := c.r) (by omega) (by omega), u64N_toNat (n := f) (by omega) (by omega), u64N_toNat (n := c.g) (by omega) (by omega), u64N_toNat (n := c.b) (by omega) (by omega), u64N_toNat (n := c.w) (by omega) (by omega)]
  have a1 := varL_len 0 s.y.toNat (by omega)
  have a2 := varL_len 1 s.x.toNat (by omega)
  have a3 := varL_len 0 (bitN s.h) (by have := bitN_b s.h; omega)
  have a4 := varL_len 1 (s.t.size : Int).toNat (by omega)
  have a5 := varL_len 1 (0 + k) (by omega)
  have a6 := varL_len 0 1 (by omega)
  have a7 := varL_len 2 c.r.toNat (by omega)
  have a8 := varL_len 1 f.toNat (by omega)
  have a9 := varL_len 3 c.g.toNat (by omega)
  have b1' := varL_len 3 c.b.toNat (by omega)
  have b2' := varL_len 0 c.w.toNat (by omega)
  omega
theorem cellsV_setf : ∀ (l : List Ce) (k : Nat) (c : Ce) (f : Int), l[k]? = some c → (cellsV l).set (k * 5 + 1) (.int .i64 f) = cellsV (l.set k (c.fl f))
  | [], _, _, _, h => by simp at h
  | a :: l, 0, c, f, h => by
    simp at h
    subst h
    simp [cellsV, Ce.cs, Ce.fl]
  | a :: l, k + 1, c, f, h => by
    have ih := cellsV_setf l k c f (by simpa using h)
    simp only [cellsV, List.set_cons_succ, List.flatMap_cons] at ih ⊢
    rw [← ih, show (k + 1) * 5 + 1 = a.cs.length + (k * 5 + 1) by (show _ = 5 + (k * 5 + 1)); omega, List.set_append_right _ _ (by omega)]
    congr 2
    omega
end Go.Proofs.YtiojhfaeeelfeaaDoor
