/-
  Chapter 14: Make, Apply over screens that may be; first.
  The document's ApplyDiff, the plain part.
-/
import Derived.Test.YtmbdpcamhkdkmaaGreatDoorDiff7M
import Derived.Test.YtmbdpcamhkdkmaaGreatDoorMg28
import Derived.Test.YtmbdpcamhkdkmaaGreatDoorMg26
import Derived.Test.YtmbdpcamhkdkmaaGreatDoorMg25
namespace Go.Proofs.YtmbdpcamhkdkmaaGreatDoor
open Go.RowKit
set_option linter.unusedVariables false
set_option linter.unusedSimpArgs false

theorem Sc.may_len {s : Sc} (h : s.may = true) : s.l.length ≤ 12000 ∧ s.t.size ≤ 256 ∧ 1 ≤ s.l.length := by
  obtain ⟨⟨p1, q1⟩, ⟨p2, q2⟩, ⟨_, _⟩, ⟨_, _⟩, q3, _, q4⟩ := Sc.may_b h
  have h1 : s.r * s.c ≤ 60 * 200 := Int.mul_le_mul q1 q2 (by omega) (by omega)
  have h2 : (1 : Int) * 1 ≤ s.r * s.c := Int.mul_le_mul p1 p2 (by decide) (by omega)
  exact ⟨by omega, q4, by omega⟩
theorem dmake_ok (w : World) (a b : Sc) (va vb : Value) (ha : Rd w 5 va a.l.length (cellsV a.l)) (hb : Rd w 5 vb b.l.length (cellsV b.l)) (hma : a.may = true) (hmb : b.may = true) (ht : Tab w) :
    Calls Tryz.prog 6 #[scS a va, scS b vb] w fun e w' => ∃ x n, e = .returned (.tuple #[.slice x (diffL a b).length n, .int .i64 0]) ∧ By w' (.slice x (diffL a b).length n) (diffL a b) ∧ Chg w w' nob := by
  have h1 := Sc.may_len hma
  have h2 := Sc.may_len hmb
  have h := dmake_any w a b va vb ha hb (by omega) (by omega) (by omega) (by omega) ht
  rw [hma, hmb] at h
  refine h.mono ?_
  rintro e w' ⟨v, rfl, hbx⟩
  have hby := By.ofBx (show Bx w w' v (diffL a b) from hbx) (diffL_b a b)
  obtain ⟨x, n, rfl, _⟩ := hby.form
  exact ⟨x, n, rfl, hby, hbx.2.1⟩
/-- Apply of the one text that makes b. -/
theorem dapply_ok (w : World) (a b : Sc) (va vd : Value) (ha : Rd w 5 va a.l.length (cellsV a.l)) (hma : a.may = true) (hmb : b.may = true) (hd : By w vd (diffL a b)) (ht : Tab w) :
    Calls Tryz.prog 8 #[scS a va, vd] w fun e w' => ∃ x n, e = .returned (.tuple #[scS b (.slice x b.l.length n), .int .i64 0]) ∧ Cs w w' (.slice x b.l.length n) b.l ∧ Chg w w' nob := by
  have h1 := Sc.may_len hma
  have h2 := Sc.may_len hmb
  have hlen : (diffL a b).length ≤ 1000000 := by
    have h3 := keyD_len b
    have h4 := headD_len b
    have h5 := strL_len a.l.length 0 a.l b.l (Nat.le_refl _) (by omega)
    unfold diffL
    split
    · simp only [List.length_cons]; omega
    · simp only [List.length_cons, List.length_append]; omega
  refine (dapply_any w a va ha (by omega) (by omega) vd _ hd hlen ht).mono ?_
  rintro e w' ⟨hc, h⟩
  cases h with
  | range h he => rw [hma] at h; cases h
  | none h hq he => rw [applyQ_there hma hmb] at hq; cases hq
  | some s x n h hq he hcs =>
    rw [applyQ_there hma hmb] at hq
    cases hq
    exact ⟨x, n, he, hcs, hc⟩
def blankS : Sc := ⟨1, 2, List.replicate 2 .blank, 0, 0, false, ByteArray.empty⟩
theorem diff_first : diffL blankS blankS = [0, 0, 0, 0, 0] := by
  have h1 : varL 0 = [0] := by rw [varL_lt (by decide)]; rfl
  have e : headD blankS = varL 0 ++ (varL 0 ++ (varL 0 ++ (varL 0 ++ []))) := rfl
  unfold diffL
  rw [if_neg (by simp), e, h1]
  show 0 :: ([0] ++ ([0] ++ ([0] ++ ([0] ++ []))) ++ strL 0 [Ce.blank, Ce.blank] [Ce.blank, Ce.blank]) = _
  rw [strL_same, strL_same, strL_nil]
  rfl
theorem blank12 (w : World) : Calls Tryz.prog 12 #[.int .i64 1, .int .i64 2] w fun e w' => ∃ a n, e = .returned (.tuple #[scS blankS (.slice a blankS.l.length n), .int .i64 0]) ∧ Cs w w' (.slice a blankS.l.length n) blankS.l ∧ Chg w w' nob := by
  refine (blank_ok w 1 2 (by decide)).mono ?_
  rintro e w' ⟨v, rfl, ho, hc, hf⟩
  obtain ⟨a, n, rfl, _⟩ := ho.form
  exact ⟨a, n, rfl, ⟨ho, hf⟩, hc⟩
theorem blank_may : blankS.may = true := may_first
theorem same_scs (w : World) (s : Sc) (va vb : Value) (ha : Rd w 5 va s.l.length (cellsV s.l)) (hb : Rd w 5 vb s.l.length (cellsV s.l)) (hl : s.l.length ≤ 1000000) :
    Calls Tryz.prog 13 #[scS s va, scS s vb] w fun e w' => e = .returned (.bool true) ∧ Chg w w' nob := by
  refine (same_any w s s va vb ha hb hl).mono ?_
  rintro e w' ⟨rfl, hc⟩
  exact ⟨by simp, hc⟩
set_option maxRecDepth 100000 in
set_option maxHeartbeats 4000000 in
theorem dfirst_any (w : World) (ht : Tab w) : Calls Tryz.prog 4 #[] w fun e w' => e = .returned (.bool true) ∧ Chg w w' nob := by
  have HT := Lib.hid ht
  obtain ⟨b0, hb0⟩ : ∃ b, blankS = b := ⟨_, rfl⟩
  have HM : Hid (b0.may = true) := Lib.hid (by rw [← hb0]; exact blank_may)
  have hll := (Sc.may_len HM.out).1
  have HDF : Hid (diffL b0 b0 = [0, 0, 0, 0, 0]) := Lib.hid (by rw [← hb0]; exact diff_first)
  have HBL := Lib.hid (blank12 w)
  rw [hb0] at HBL
  clear ht hb0
  go_enter Tryz.func4, Tryz.ntmps4
  go_wp2_with fail
  go_at_call 12
  refine HBL.out.mono ?_
  rintro e w1 ⟨a1, n1, rfl, hcs, hck⟩
  have HC := Lib.hid hck
  go_upto_region 2 with (fail)
  obtain ⟨w2, hw⟩ : ∃ W, w1.alloc (.cells (scL b0 (.slice a1 b0.l.length n1)) 24) = W := ⟨_, rfl⟩
  have hck2 : Chg w1 w2 nob := by rw [← hw]; exact (Chg.refl w1 nob).alloc _
  have HX : Hid (Blk w2 w1.heap.size 24 (scL b0 (.slice a1 b0.l.length n1))) := Lib.hid (by rw [← hw]; exact Blk.new w1 _ _)
  have HS := Lib.hid (hcs.kept hck2)
  rw [hw]
  clear hw hcs hck HBL
  obtain ⟨ix, hix⟩ : ∃ i, w1.heap.size = i := ⟨_, rfl⟩
  rw [hix] at HX ⊢
  clear hix
  replace HC := Lib.hid (HC.out.trans hck2 (fun _ _ h => h))
  clear hck2
  have x0 := HX.out.cell 0
  have x1 := HX.out.cell 1
  have x2 := HX.out.cell 2
  have x3 := HX.out.cell 3
  have x4 := HX.out.cell 4
  have x5 := HX.out.cell 5
  have x6 := HX.out.cell 6
  simp only [List.getElem?_toArray, List.getElem?_cons_zero, List.getElem?_cons_succ] at x0 x1 x2 x3 x4 x5 x6
  have HMK := Lib.hid (dmake_ok w2 b0 b0 _ _ HS.out.1.rd HS.out.1.rd HM.out HM.out (HT.out.kept HC.out))
  obtain ⟨D, hD⟩ : ∃ D, diffL b0 b0 = D := ⟨_, rfl⟩
  rw [hD] at HMK HDF
  go_wp2_with fail
  go_at_call 6
  refine HMK.out.mono ?_
  rintro e w3 ⟨ad, nd, rfl, hby, hck⟩
  have HD := Lib.hid hby
  replace HX := Lib.hid (HX.out.kept hck id)
  replace HS := Lib.hid (HS.out.kept hck)
  replace HC := Lib.hid (HC.out.trans hck (fun _ _ h => h))
  clear hby hck HMK x0 x1 x2 x3 x4 x5 x6
  have x0 := HX.out.cell 0
  have x1 := HX.out.cell 1
  have x2 := HX.out.cell 2
  have x3 := HX.out.cell 3
  have x4 := HX.out.cell 4
  have x5 := HX.out.cell 5
  have x6 := HX.out.cell 6
  simp only [List.getElem?_toArray, List.getElem?_cons_zero, List.getElem?_cons_succ] at x0 x1 x2 x3 x4 x5 x6
  have HAP := Lib.hid (dapply_ok w3 b0 b0 _ (.slice ad D.length nd) HS.out.1.rd HM.out HM.out (by rw [hD]; exact HD.out) (HT.out.kept HC.out))
  clear hD
  go_wp2_with fail
  go_at_call 8
  refine HAP.out.mono ?_
  rintro e w4 ⟨a2, n2, rfl, hcs, hck⟩
  replace HX := Lib.hid (HX.out.kept hck id)
  replace HS := Lib.hid (HS.out.kept hck)
  replace HD := Lib.hid (HD.out.kept hck)
  replace HC := Lib.hid (HC.out.trans hck (fun _ _ h => h))
  clear hck HAP x0 x1 x2 x3 x4 x5 x6
  go_upto_region 4 with (fail)
  obtain ⟨w5, hw⟩ : ∃ W, w4.alloc (.cells (scL b0 (.slice a2 b0.l.length n2)) 24) = W := ⟨_, rfl⟩
  have hck : Chg w4 w5 nob := by rw [← hw]; exact (Chg.refl w4 nob).alloc _
  have HY : Hid (Blk w5 w4.heap.size 24 (scL b0 (.slice a2 b0.l.length n2))) := Lib.hid (by rw [← hw]; exact Blk.new w4 _ _)
  have HS2 := Lib.hid (hcs.kept hck)
  rw [hw]
  clear hw hcs
  obtain ⟨iy, hiy⟩ : ∃ i, w4.heap.size = i := ⟨_, rfl⟩
  rw [hiy] at HY ⊢
  clear hiy
  replace HX := Lib.hid (HX.out.kept hck id)
  replace HS := Lib.hid (HS.out.kept hck)
  replace HD := Lib.hid (HD.out.kept hck)
  replace HC := Lib.hid (HC.out.trans hck (fun _ _ h => h))
  clear hck
  have HBY : Hid (By w5 (.slice ad D.length nd) D) := HD
  go_wp2_with fail
  go_at_call 10
  have hlit := By.lit w5 [0, 0, 0, 0, 0] (by decide)
  refine (bytes_by (HBY.out.alloc _) hlit).mono ?_
  rw [decide_eq_true HDF.out]
  rintro e w6 ⟨rfl, hw6⟩
  have hck : Chg w5 w6 nob := by rw [← hw6]; exact (Chg.refl w5 nob).alloc _
  clear hw6 hlit
  replace HX := Lib.hid (HX.out.kept hck id)
  replace HY := Lib.hid (HY.out.kept hck id)
  replace HS := Lib.hid (HS.out.kept hck)
  replace HS2 := Lib.hid (HS2.out.kept hck)
  replace HC := Lib.hid (HC.out.trans hck (fun _ _ h => h))
  clear hck
  have x0 := HX.out.cell 0
  have x1 := HX.out.cell 1
  have x2 := HX.out.cell 2
  have x3 := HX.out.cell 3
  have x4 := HX.out.cell 4
  have x5 := HX.out.cell 5
  have x6 := HX.out.cell 6
  simp only [List.getElem?_toArray, List.getElem?_cons_zero, List.getElem?_cons_succ] at x0 x1 x2 x3 x4 x5 x6
  have y0 := HY.out.cell 0
  have y1 := HY.out.cell 1
  have y2 := HY.out.cell 2
  have y3 := HY.out.cell 3
  have y4 := HY.out.cell 4
  have y5 := HY.out.cell 5
  have y6 := HY.out.cell 6
  simp only [List.getElem?_toArray, List.getElem?_cons_zero, List.getElem?_cons_succ] at y0 y1 y2 y3 y4 y5 y6
  go_wp2_with fail
  go_at_call 13
  refine (same_scs w6 b0 _ _ HS.out.1.rd HS2.out.1.rd (by omega)).mono ?_
  rintro e w7 ⟨rfl, hck⟩
  replace HC := Lib.hid (HC.out.trans hck (fun _ _ h => h))
  clear hck
  go_wp2
  go_ret
  exact ⟨rfl, HC.out⟩
end Go.Proofs.YtmbdpcamhkdkmaaGreatDoor

namespace Go.Proofs.YtmbdpcamhkdkmaaGreatDoor
open Go.RowKit
set_option linter.unusedVariables false
set_option linter.unusedSimpArgs false

theorem numM_more {m m' : Nat} {l : List Int} {x : Nat × List Int} (h : m ≤ m') (hx : numM m l = some x) : numM m' l = some x := by
  rw [numM_less l h] at hx
  cases hq : numM m' l with
  | none => rw [hq] at hx; cases hx
  | some y =>
    rw [hq, Option.bind_some] at hx
    split at hx
    · exact hx
    · cases hx
theorem textQ_more {l : List Int} {x : ByteArray × List Int} (hx : textQ 256 l = some x) : textQ 1000 l = some x := by
  unfold textQ at hx ⊢
  obtain ⟨n, h1, h2⟩ := Option.bind_eq_some_iff.1 hx
  rw [numM_more (by decide) h1, Option.bind_some]
  exact h2
def changedD (a : Sc) (l : List Int) : Option Sc :=
  (numM 60 l).bind fun y => (numM 200 y.2).bind fun x => (numM 1 x.2).bind fun h => (textQ 1000 h.2).bind fun t => (laysQ t.2.length 0 a.l t.2).bind fun z =>
    some ⟨a.r, a.c, z, y.1, x.1, decide (h.1 = 1), t.1⟩
theorem changed_D {a b : Sc} {l : List Int} (h : changedQ a l = some b) : changedD a l = some b := by
  unfold changedQ at h
  unfold changedD
  obtain ⟨y, h1, h⟩ := Option.bind_eq_some_iff.1 h
  obtain ⟨x, h2, h⟩ := Option.bind_eq_some_iff.1 h
  obtain ⟨hh, h3, h⟩ := Option.bind_eq_some_iff.1 h
  obtain ⟨t, h4, h⟩ := Option.bind_eq_some_iff.1 h
  rw [h1, Option.bind_some, h2, Option.bind_some, h3, Option.bind_some, textQ_more h4, Option.bind_some]
  exact h
def partD (a : Sc) (d : List Int) : Option Sc := (numM 0 d).bind fun k => changedD a k.2
theorem numM_zero {d : List Int} {x : Nat × List Int} (hb : ∀ z ∈ d, 0 ≤ z ∧ z ≤ 255) (h : numM 0 d = some x) : x.1 = 0 ∧ d = 0 :: x.2 := by
  obtain ⟨h1, h2, _⟩ := numM_back hb (show numM 0 d = some (x.1, x.2) from h)
  have h0 : x.1 = 0 := by omega
  rw [h0, varL_lt (by decide)] at h1
  exact ⟨h0, h1⟩
theorem numM_of0 (l : List Int) : numM 0 (0 :: l) = some (0, l) := by
  have h := numM_var (most := 0) (n := 0) (by decide) (Nat.le_refl _) l
  rwa [varL_lt (by decide)] at h
/-- What comes of the document's reading, where the first byte is not 1. -/
theorem applyD {a : Sc} {d : List Int} (ha : a.may = true) (hb : ∀ z ∈ d, 0 ≤ z ∧ z ≤ 255) (h1 : ∀ l, d ≠ 1 :: l) : applyQ a d = (partD a d).bind fun b => if b.may = true ∧ diffL a b = d then some b else none := by
  cases hp : partD a d with
  | none =>
    rw [Option.bind_none]
    cases hq : applyQ a d with
    | none => rfl
    | some b =>
      exfalso
      obtain ⟨b', h2, h3⟩ := Option.bind_eq_some_iff.1 hq
      cases d with
      | nil => simp [partQ] at h2
      | cons k l =>
        simp only [partQ] at h2
        split at h2
        · rename_i hk; subst hk; exact h1 l rfl
        · split at h2
          · rename_i hk
            subst hk
            rw [partD, numM_of0, Option.bind_some, changed_D h2] at hp
            cases hp
          · cases h2
  | some b =>
    rw [Option.bind_some]
    by_cases hc : b.may = true ∧ diffL a b = d
    · rw [if_pos hc, ← hc.2]
      exact applyQ_there ha hc.1
    · rw [if_neg hc]
      cases hq : applyQ a d with
      | none => rfl
      | some b' =>
        exfalso
        obtain ⟨b'', h2, h3⟩ := Option.bind_eq_some_iff.1 hq
        cases d with
        | nil => simp [partQ] at h2
        | cons k l =>
          simp only [partQ] at h2
          split at h2
          · rename_i hk; subst hk; exact h1 l rfl
          · split at h2
            · rename_i hk
              subst hk
              rw [partD, numM_of0, Option.bind_some, changed_D h2] at hp
              cases hp
              split at h3
              · rename_i hcc; exact hc hcc
              · cases h3
            · cases h2
theorem apply_one {a b : Sc} {l : List Int} (ha : a.may = true) (hb : ∀ z ∈ l, 0 ≤ z ∧ z ≤ 255) (h : decQ 256 l = some b) : applyQ a (1 :: l) = if a.r = b.r ∧ a.c = b.c then none else some b := by
  obtain ⟨h1, h2⟩ := decQ_back (by decide) hb h
  unfold applyQ
  simp only [partQ, if_pos rfl]
  rw [if_pos trivial, h, Option.bind_some]
  by_cases hc : a.r = b.r ∧ a.c = b.c
  · rw [if_pos hc, if_neg]
    rintro ⟨_, h3⟩
    unfold diffL at h3
    rw [if_neg (by rintro (h | h); exact h hc.1; exact h hc.2)] at h3
    simp at h3
  · have h3 : diffL a b = 1 :: l := by
      unfold diffL
      rw [if_pos (by
        by_cases h3 : a.r = b.r
        · exact .inr (fun h4 => hc ⟨h3, h4⟩)
        · exact .inl h3), h1]
    rw [if_neg hc, if_pos ⟨h2, h3⟩]
theorem apply_one_none {a : Sc} {l : List Int} (h : decQ 256 l = none) : applyQ a (1 :: l) = none := by
  unfold applyQ
  simp only [partQ]
  rw [if_pos trivial, h]
  rfl
end Go.Proofs.YtmbdpcamhkdkmaaGreatDoor
