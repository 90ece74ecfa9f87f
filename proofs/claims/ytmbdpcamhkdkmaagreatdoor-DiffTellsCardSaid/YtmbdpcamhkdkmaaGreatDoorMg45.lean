/-
  DiffTells: what lies between two screens, and what comes of a text, by the program and by the document.
  An argument that is a slice of structs whose fields are whole numbers: its cells.
  An argument that is a struct of three whole numbers, by value.
-/
import Derived.Test.YtmbdpcamhkdkmaaGreatDoorMg38
import Derived.Test.YtmbdpcamhkdkmaaGreatDoorApDM
import Derived.Test.YtmbdpcamhkdkmaaGreatDoorDecUM
import Derived.Test.YtmbdpcamhkdkmaaGreatDoorMkDM
import Derived.Test.YtmbdpcamhkdkmaaGreatDoorK
import Derived.Deep.Slices
import Derived.Deep.Fields
import Derived.ChangeSame
namespace Go.Proofs.YtmbdpcamhkdkmaaGreatDoor
open Go.RowKit
set_option linter.unusedVariables false
set_option linter.unusedSimpArgs false

/-- What Apply tells, in one word. -/
def apO (a : Sc) (d : List Int) : Option Sc := if a.may = true then applyQ a d else none
def apE (a : Sc) (d : List Int) : Int := if a.may = true then (if (applyQ a d).isSome then 0 else 2) else 1
theorem apq_one {a : Sc} {d : List Int} {w w' : World} {e : Ending} (h : ApQ a d w w' e) :
    ∃ x n, e = .returned (.tuple #[scS (decS (apO a d)) (.slice x (decS (apO a d)).l.length n), .int .i64 (apE a d)]) ∧ Cs w w' (.slice x (decS (apO a d)).l.length n) (decS (apO a d)).l := by
  cases h with
  | range h he =>
    have h1 : apO a d = none := by unfold apO; rw [h]; rfl
    have h2 : apE a d = 1 := by unfold apE; rw [h]; rfl
    rw [h1, h2]
    exact ⟨none, 0, he, Cs.nil _ _⟩
  | none h hq he =>
    have h1 : apO a d = none := by unfold apO; rw [if_pos h, hq]
    have h2 : apE a d = 2 := by unfold apE; rw [if_pos h, hq]; rfl
    rw [h1, h2]
    exact ⟨none, 0, he, Cs.nil _ _⟩
  | some s x n h hq he hcs =>
    have h1 : apO a d = some s := by unfold apO; rw [if_pos h, hq]
    have h2 : apE a d = 0 := by unfold apE; rw [if_pos h, hq]; rfl
    rw [h1, h2]
    exact ⟨x, n, he, hcs⟩
theorem apO_len (a : Sc) (d : List Int) (hb : ∀ x ∈ d, 0 ≤ x ∧ x ≤ 255) : (decS (apO a d)).l.length ≤ 12000 := by
  cases h : apO a d with
  | none => exact Nat.zero_le _
  | some s =>
    unfold apO at h
    split at h
    · obtain ⟨hm, _⟩ := applyQ_back h
      exact (Sc.may_len hm).1
    · cases h
/-- Two screens in their boxes, behind w. -/
structure BoxT (w wr : World) (i j : Nat) (A B : Array Value) : Prop where
  chg : Chg w wr nob
  a : Blk wr i 24 A
  b : Blk wr j 24 B
theorem BoxT.kept {w wr w' : World} {i j : Nat} {A B : Array Value} (h : BoxT w wr i j A B) (hc : Chg wr w' nob) : BoxT w w' i j A B := ⟨h.chg.trans hc (fun _ _ x => x), h.a.kept hc id, h.b.kept hc id⟩
set_option maxRecDepth 100000 in
set_option maxHeartbeats 4000000 in
theorem DiffTells_sc (w : World) (a b : Sc) (va vb : Value) (ha : Rd w 5 va a.l.length (cellsV a.l)) (hb : Rd w 5 vb b.l.length (cellsV b.l)) (ad : Option Addr) (cd : Nat) (d : List Int) (hd : By w (.slice ad d.length cd) d) (ht : Tab w) :
    Calls Tryz.prog 3 #[scS a va, scS b vb, .slice ad d.length cd] w fun e w' => e = .returned (.bool true) ∧ Chg w w' nob := by
  have HT := Lib.hid ht
  have HD := Lib.hid hd
  obtain ⟨aa, na, rfl, _⟩ := ha.form
  obtain ⟨ab, nb, rfl, _⟩ := hb.form
  have HA := Lib.hid ha
  have HB := Lib.hid hb
  clear ha hb hd ht
  obtain ⟨f1, hf1⟩ : ∃ x, (decide (a.l.length ≤ 3000) && decide (a.t.size ≤ 3000)) = x := ⟨_, rfl⟩
  obtain ⟨f2, hf2⟩ : ∃ x, (decide (b.l.length ≤ 3000) && decide (b.t.size ≤ 3000)) = x := ⟨_, rfl⟩
  have HF1 := Lib.hid hf1
  have HF2 := Lib.hid hf2
  clear hf1 hf2
  go_enter Tryz.func3, Tryz.ntmps3
  go_upto_region 1 with (fail)
  obtain ⟨w1, hw⟩ : ∃ W, (w.alloc (.cells (scL a (.slice aa a.l.length na)) 24)).alloc (.cells (scL b (.slice ab b.l.length nb)) 24) = W := ⟨_, rfl⟩
  have HX : Hid (BoxT w w1 w.heap.size (w.heap.size + 1) (scL a (.slice aa a.l.length na)) (scL b (.slice ab b.l.length nb))) := Lib.hid (by
    rw [← hw]
    exact ⟨((Chg.refl w nob).alloc _).alloc _, (Blk.new w _ _).alloc _, Blk.new2' w _ _ _⟩)
  rw [hw]
  clear hw
  obtain ⟨ia, hia⟩ : ∃ i, w.heap.size = i := ⟨_, rfl⟩
  rw [hia] at HX ⊢
  clear hia
  obtain ⟨ib, hib⟩ : ∃ i, ia + 1 = i := ⟨_, rfl⟩
  rw [hib] at HX ⊢
  clear hib
  have ca0 := HX.out.a.cell 0
  have ca1 := HX.out.a.cell 1
  have ca2 := HX.out.a.cell 2
  have ca3 := HX.out.a.cell 3
  have ca4 := HX.out.a.cell 4
  have ca5 := HX.out.a.cell 5
  have ca6 := HX.out.a.cell 6
  simp only [List.getElem?_toArray, List.getElem?_cons_zero, List.getElem?_cons_succ] at ca0 ca1 ca2 ca3 ca4 ca5 ca6
  have cb0 := HX.out.b.cell 0
  have cb1 := HX.out.b.cell 1
  have cb2 := HX.out.b.cell 2
  have cb3 := HX.out.b.cell 3
  have cb4 := HX.out.b.cell 4
  have cb5 := HX.out.b.cell 5
  have cb6 := HX.out.b.cell 6
  simp only [List.getElem?_toArray, List.getElem?_cons_zero, List.getElem?_cons_succ] at cb0 cb1 cb2 cb3 cb4 cb5 cb6
  go_wp2_with fail
  go_at_call 4
  refine (dfirst_any w1 (HT.out.kept HX.out.chg)).mono ?_
  rintro e w2 ⟨rfl, hck⟩
  replace HX := Lib.hid (HX.out.kept hck)
  clear ca0 ca1 ca2 ca3 ca4 ca5 ca6 cb0 cb1 cb2 cb3 cb4 cb5 cb6
  have ca0 := HX.out.a.cell 0
  have ca1 := HX.out.a.cell 1
  have ca2 := HX.out.a.cell 2
  have ca3 := HX.out.a.cell 3
  have ca4 := HX.out.a.cell 4
  have ca5 := HX.out.a.cell 5
  have ca6 := HX.out.a.cell 6
  simp only [List.getElem?_toArray, List.getElem?_cons_zero, List.getElem?_cons_succ] at ca0 ca1 ca2 ca3 ca4 ca5 ca6
  have cb0 := HX.out.b.cell 0
  have cb1 := HX.out.b.cell 1
  have cb2 := HX.out.b.cell 2
  have cb3 := HX.out.b.cell 3
  have cb4 := HX.out.b.cell 4
  have cb5 := HX.out.b.cell 5
  have cb6 := HX.out.b.cell 6
  simp only [List.getElem?_toArray, List.getElem?_cons_zero, List.getElem?_cons_succ] at cb0 cb1 cb2 cb3 cb4 cb5 cb6
  clear hck
  go_wp2_with fail
  go_at_call 5
  refine (few_any w2 a.r a.c a.y a.x a.h a.t _ a.l.length ⟨_, _, rfl⟩).mono ?_
  rw [HF1.out]
  rintro e w3 ⟨rfl, hck⟩
  replace HX := Lib.hid (HX.out.kept hck)
  clear ca0 ca1 ca2 ca3 ca4 ca5 ca6 cb0 cb1 cb2 cb3 cb4 cb5 cb6
  have ca0 := HX.out.a.cell 0
  have ca1 := HX.out.a.cell 1
  have ca2 := HX.out.a.cell 2
  have ca3 := HX.out.a.cell 3
  have ca4 := HX.out.a.cell 4
  have ca5 := HX.out.a.cell 5
  have ca6 := HX.out.a.cell 6
  simp only [List.getElem?_toArray, List.getElem?_cons_zero, List.getElem?_cons_succ] at ca0 ca1 ca2 ca3 ca4 ca5 ca6
  have cb0 := HX.out.b.cell 0
  have cb1 := HX.out.b.cell 1
  have cb2 := HX.out.b.cell 2
  have cb3 := HX.out.b.cell 3
  have cb4 := HX.out.b.cell 4
  have cb5 := HX.out.b.cell 5
  have cb6 := HX.out.b.cell 6
  simp only [List.getElem?_toArray, List.getElem?_cons_zero, List.getElem?_cons_succ] at cb0 cb1 cb2 cb3 cb4 cb5 cb6
  clear hck
  cases f1 with
  | false =>
    go_wp2_with fail
    go_at_call 4
    refine (dfirst_any w3 (HT.out.kept HX.out.chg)).mono ?_
    rintro e x_ ⟨rfl, hck⟩
    replace HX := Lib.hid (HX.out.kept hck)
    clear hck
    go_wp2
    go_ret
    exact ⟨rfl, HX.out.chg⟩
  | true =>
    go_wp2_with fail
    go_at_call 5
    refine (few_any w3 b.r b.c b.y b.x b.h b.t _ b.l.length ⟨_, _, rfl⟩).mono ?_
    rw [HF2.out]
    rintro e w4 ⟨rfl, hck⟩
    replace HX := Lib.hid (HX.out.kept hck)
    clear ca0 ca1 ca2 ca3 ca4 ca5 ca6 cb0 cb1 cb2 cb3 cb4 cb5 cb6
    have ca0 := HX.out.a.cell 0
    have ca1 := HX.out.a.cell 1
    have ca2 := HX.out.a.cell 2
    have ca3 := HX.out.a.cell 3
    have ca4 := HX.out.a.cell 4
    have ca5 := HX.out.a.cell 5
    have ca6 := HX.out.a.cell 6
    simp only [List.getElem?_toArray, List.getElem?_cons_zero, List.getElem?_cons_succ] at ca0 ca1 ca2 ca3 ca4 ca5 ca6
    have cb0 := HX.out.b.cell 0
    have cb1 := HX.out.b.cell 1
    have cb2 := HX.out.b.cell 2
    have cb3 := HX.out.b.cell 3
    have cb4 := HX.out.b.cell 4
    have cb5 := HX.out.b.cell 5
    have cb6 := HX.out.b.cell 6
    simp only [List.getElem?_toArray, List.getElem?_cons_zero, List.getElem?_cons_succ] at cb0 cb1 cb2 cb3 cb4 cb5 cb6
    clear hck
    cases f2 with
    | false =>
      go_wp2_with fail
      go_at_call 4
      refine (dfirst_any w4 (HT.out.kept HX.out.chg)).mono ?_
      rintro e x_ ⟨rfl, hck⟩
      replace HX := Lib.hid (HX.out.kept hck)
      clear hck
      go_wp2
      go_ret
      exact ⟨rfl, HX.out.chg⟩
    | true =>
      obtain ⟨n1, n2⟩ := Bool.and_eq_true_iff.1 HF1.out
      obtain ⟨n3, n4⟩ := Bool.and_eq_true_iff.1 HF2.out
      simp only [decide_eq_true_eq] at n1 n2 n3 n4
      by_cases hdl : d.length ≤ 3000
      · have hdi : ¬ (3000 : Int) < (d.length : Int) := by omega
        obtain ⟨k, hk⟩ : ∃ k, okE (a.may && b.may) = k := ⟨_, rfl⟩
        have hkk : (k == k) = true := beq_self_eq_true k
        obtain ⟨L, hL⟩ : ∃ L, (if (a.may && b.may) = true then diffL a b else []) = L := ⟨_, rfl⟩
        have HLB : Hid (∀ x ∈ L, 0 ≤ x ∧ x ≤ 255) := Lib.hid (by
          rw [← hL]
          split
          · exact diffL_b a b
          · intro x hx; cases hx)
        obtain ⟨S, hS⟩ : ∃ S, decS (apO a d) = S := ⟨_, rfl⟩
        have hSl : S.l.length ≤ 12000 := by rw [← hS]; exact apO_len a d HD.out.byte
        obtain ⟨j, hj⟩ : ∃ j, apE a d = j := ⟨_, rfl⟩
        have hjj : (j == j) = true := beq_self_eq_true j
        have HK := Lib.hid hk
        have HL := Lib.hid hL
        have HS := Lib.hid hS
        have HJ := Lib.hid hj
        clear hk hL hS hj
        have HMK := Lib.hid (dmake_any w4 a b _ _ (HA.out.kept HX.out.chg (fun _ _ => id)) (HB.out.kept HX.out.chg (fun _ _ => id)) (by omega) (by omega) (by omega) (by omega) (HT.out.kept HX.out.chg))
        rw [HK.out, HL.out] at HMK
        go_wp2_with fail
        go_at_call 6
        refine HMK.out.mono ?_
        rintro e w5 ⟨vx, rfl, hbx⟩
        have hck := hbx.2.1
        have hby := By.ofBx hbx HLB.out
        obtain ⟨ax, nx, rfl, _⟩ := hby.form
        have HXB := Lib.hid hby
        clear hby hbx HMK
        replace HX := Lib.hid (HX.out.kept hck)
        clear ca0 ca1 ca2 ca3 ca4 ca5 ca6 cb0 cb1 cb2 cb3 cb4 cb5 cb6
        have ca0 := HX.out.a.cell 0
        have ca1 := HX.out.a.cell 1
        have ca2 := HX.out.a.cell 2
        have ca3 := HX.out.a.cell 3
        have ca4 := HX.out.a.cell 4
        have ca5 := HX.out.a.cell 5
        have ca6 := HX.out.a.cell 6
        simp only [List.getElem?_toArray, List.getElem?_cons_zero, List.getElem?_cons_succ] at ca0 ca1 ca2 ca3 ca4 ca5 ca6
        have cb0 := HX.out.b.cell 0
        have cb1 := HX.out.b.cell 1
        have cb2 := HX.out.b.cell 2
        have cb3 := HX.out.b.cell 3
        have cb4 := HX.out.b.cell 4
        have cb5 := HX.out.b.cell 5
        have cb6 := HX.out.b.cell 6
        simp only [List.getElem?_toArray, List.getElem?_cons_zero, List.getElem?_cons_succ] at cb0 cb1 cb2 cb3 cb4 cb5 cb6
        clear hck
        have HMK := Lib.hid (rmake_any w5 a b _ _ (HA.out.kept HX.out.chg (fun _ _ => id)) (HB.out.kept HX.out.chg (fun _ _ => id)) (by omega) (by omega) (by omega) (by omega) (HT.out.kept HX.out.chg))
        rw [HK.out, HL.out] at HMK
        go_wp2_with fail
        go_at_call 7
        refine HMK.out.mono ?_
        rintro e w6 ⟨vy, rfl, hbx⟩
        have hck := hbx.2.1
        have hby := By.ofBx hbx HLB.out
        obtain ⟨ay, ny, rfl, _⟩ := hby.form
        have HYB := Lib.hid hby
        replace HXB := Lib.hid (HXB.out.kept hck)
        clear hby hbx HMK
        replace HX := Lib.hid (HX.out.kept hck)
        clear ca0 ca1 ca2 ca3 ca4 ca5 ca6 cb0 cb1 cb2 cb3 cb4 cb5 cb6
        have ca0 := HX.out.a.cell 0
        have ca1 := HX.out.a.cell 1
        have ca2 := HX.out.a.cell 2
        have ca3 := HX.out.a.cell 3
        have ca4 := HX.out.a.cell 4
        have ca5 := HX.out.a.cell 5
        have ca6 := HX.out.a.cell 6
        simp only [List.getElem?_toArray, List.getElem?_cons_zero, List.getElem?_cons_succ] at ca0 ca1 ca2 ca3 ca4 ca5 ca6
        have cb0 := HX.out.b.cell 0
        have cb1 := HX.out.b.cell 1
        have cb2 := HX.out.b.cell 2
        have cb3 := HX.out.b.cell 3
        have cb4 := HX.out.b.cell 4
        have cb5 := HX.out.b.cell 5
        have cb6 := HX.out.b.cell 6
        simp only [List.getElem?_toArray, List.getElem?_cons_zero, List.getElem?_cons_succ] at cb0 cb1 cb2 cb3 cb4 cb5 cb6
        clear hck
        go_wp2_with fail
        go_at_call 8
        refine (dapply_any w6 a _ (HA.out.kept HX.out.chg (fun _ _ => id)) (by omega) (by omega) _ d (HD.out.kept HX.out.chg) (by omega) (HT.out.kept HX.out.chg)).mono ?_
        rintro e w7 ⟨hck, hap⟩
        obtain ⟨sa, sn, hee, hcs⟩ := apq_one hap
        rw [HS.out, HJ.out] at hee
        rw [HS.out] at hcs
        subst hee
        have HSS := Lib.hid hcs
        replace HXB := Lib.hid (HXB.out.kept hck)
        replace HYB := Lib.hid (HYB.out.kept hck)
        clear hcs hap
        replace HX := Lib.hid (HX.out.kept hck)
        clear ca0 ca1 ca2 ca3 ca4 ca5 ca6 cb0 cb1 cb2 cb3 cb4 cb5 cb6
        have ca0 := HX.out.a.cell 0
        have ca1 := HX.out.a.cell 1
        have ca2 := HX.out.a.cell 2
        have ca3 := HX.out.a.cell 3
        have ca4 := HX.out.a.cell 4
        have ca5 := HX.out.a.cell 5
        have ca6 := HX.out.a.cell 6
        simp only [List.getElem?_toArray, List.getElem?_cons_zero, List.getElem?_cons_succ] at ca0 ca1 ca2 ca3 ca4 ca5 ca6
        have cb0 := HX.out.b.cell 0
        have cb1 := HX.out.b.cell 1
        have cb2 := HX.out.b.cell 2
        have cb3 := HX.out.b.cell 3
        have cb4 := HX.out.b.cell 4
        have cb5 := HX.out.b.cell 5
        have cb6 := HX.out.b.cell 6
        simp only [List.getElem?_toArray, List.getElem?_cons_zero, List.getElem?_cons_succ] at cb0 cb1 cb2 cb3 cb4 cb5 cb6
        clear hck
        go_upto_region 8 with (fail)
        obtain ⟨w8, hw⟩ : ∃ W, w7.alloc (.cells (scL S (.slice sa S.l.length sn)) 24) = W := ⟨_, rfl⟩
        have hck : Chg w7 w8 nob := by rw [← hw]; exact (Chg.refl w7 nob).alloc _
        have HY : Hid (Blk w8 w7.heap.size 24 (scL S (.slice sa S.l.length sn))) := Lib.hid (by rw [← hw]; exact Blk.new w7 _ _)
        rw [hw]
        clear hw
        obtain ⟨iy, hiz⟩ : ∃ i, w7.heap.size = i := ⟨_, rfl⟩
        rw [hiz] at HY ⊢
        clear hiz
        replace HSS := Lib.hid (HSS.out.kept hck)
        replace HXB := Lib.hid (HXB.out.kept hck)
        replace HYB := Lib.hid (HYB.out.kept hck)
        replace HX := Lib.hid (HX.out.kept hck)
        clear ca0 ca1 ca2 ca3 ca4 ca5 ca6 cb0 cb1 cb2 cb3 cb4 cb5 cb6
        have ca0 := HX.out.a.cell 0
        have ca1 := HX.out.a.cell 1
        have ca2 := HX.out.a.cell 2
        have ca3 := HX.out.a.cell 3
        have ca4 := HX.out.a.cell 4
        have ca5 := HX.out.a.cell 5
        have ca6 := HX.out.a.cell 6
        simp only [List.getElem?_toArray, List.getElem?_cons_zero, List.getElem?_cons_succ] at ca0 ca1 ca2 ca3 ca4 ca5 ca6
        have cb0 := HX.out.b.cell 0
        have cb1 := HX.out.b.cell 1
        have cb2 := HX.out.b.cell 2
        have cb3 := HX.out.b.cell 3
        have cb4 := HX.out.b.cell 4
        have cb5 := HX.out.b.cell 5
        have cb6 := HX.out.b.cell 6
        simp only [List.getElem?_toArray, List.getElem?_cons_zero, List.getElem?_cons_succ] at cb0 cb1 cb2 cb3 cb4 cb5 cb6
        clear hck
        go_wp2_with fail
        go_at_call 9
        refine (rapply_any w8 a _ (HA.out.kept HX.out.chg (fun _ _ => id)) (by omega) (by omega) _ d (HD.out.kept HX.out.chg) (by omega) (HT.out.kept HX.out.chg)).mono ?_
        rintro e w9 ⟨hck, hap⟩
        obtain ⟨ta, tn, hee, hcs⟩ := apq_one hap
        rw [HS.out, HJ.out] at hee
        rw [HS.out] at hcs
        subst hee
        have HTT := Lib.hid hcs
        replace HXB := Lib.hid (HXB.out.kept hck)
        replace HYB := Lib.hid (HYB.out.kept hck)
        replace HSS := Lib.hid (HSS.out.kept hck)
        replace HY := Lib.hid (HY.out.kept hck id)
        clear hcs hap
        replace HX := Lib.hid (HX.out.kept hck)
        clear ca0 ca1 ca2 ca3 ca4 ca5 ca6 cb0 cb1 cb2 cb3 cb4 cb5 cb6
        have ca0 := HX.out.a.cell 0
        have ca1 := HX.out.a.cell 1
        have ca2 := HX.out.a.cell 2
        have ca3 := HX.out.a.cell 3
        have ca4 := HX.out.a.cell 4
        have ca5 := HX.out.a.cell 5
        have ca6 := HX.out.a.cell 6
        simp only [List.getElem?_toArray, List.getElem?_cons_zero, List.getElem?_cons_succ] at ca0 ca1 ca2 ca3 ca4 ca5 ca6
        have cb0 := HX.out.b.cell 0
        have cb1 := HX.out.b.cell 1
        have cb2 := HX.out.b.cell 2
        have cb3 := HX.out.b.cell 3
        have cb4 := HX.out.b.cell 4
        have cb5 := HX.out.b.cell 5
        have cb6 := HX.out.b.cell 6
        simp only [List.getElem?_toArray, List.getElem?_cons_zero, List.getElem?_cons_succ] at cb0 cb1 cb2 cb3 cb4 cb5 cb6
        clear hck
        go_upto_region 9 with (fail)
        obtain ⟨wA, hw⟩ : ∃ W, w9.alloc (.cells (scL S (.slice ta S.l.length tn)) 24) = W := ⟨_, rfl⟩
        have hck : Chg w9 wA nob := by rw [← hw]; exact (Chg.refl w9 nob).alloc _
        have HZ : Hid (Blk wA w9.heap.size 24 (scL S (.slice ta S.l.length tn))) := Lib.hid (by rw [← hw]; exact Blk.new w9 _ _)
        rw [hw]
        clear hw
        obtain ⟨iz, hiz⟩ : ∃ i, w9.heap.size = i := ⟨_, rfl⟩
        rw [hiz] at HZ ⊢
        clear hiz
        replace HSS := Lib.hid (HSS.out.kept hck)
        replace HTT := Lib.hid (HTT.out.kept hck)
        replace HXB := Lib.hid (HXB.out.kept hck)
        replace HYB := Lib.hid (HYB.out.kept hck)
        replace HY := Lib.hid (HY.out.kept hck id)
        replace HX := Lib.hid (HX.out.kept hck)
        clear ca0 ca1 ca2 ca3 ca4 ca5 ca6 cb0 cb1 cb2 cb3 cb4 cb5 cb6
        clear hck
        go_wp2_with fail
        go_at_call 4
        refine (dfirst_any wA (HT.out.kept HX.out.chg)).mono ?_
        rintro e wB ⟨rfl, hck⟩
        replace HSS := Lib.hid (HSS.out.kept hck)
        replace HTT := Lib.hid (HTT.out.kept hck)
        replace HXB := Lib.hid (HXB.out.kept hck)
        replace HYB := Lib.hid (HYB.out.kept hck)
        replace HY := Lib.hid (HY.out.kept hck id)
        replace HZ := Lib.hid (HZ.out.kept hck id)
        replace HX := Lib.hid (HX.out.kept hck)
        clear hck
        go_wp2_with fail
        go_at_call 10
        refine (bytes_by HXB.out HYB.out).mono ?_
        rw [decide_eq_true (rfl : L = L)]
        rintro e xx ⟨rfl, rfl⟩
        have cy0 := HY.out.cell 0
        have cy1 := HY.out.cell 1
        have cy2 := HY.out.cell 2
        have cy3 := HY.out.cell 3
        have cy4 := HY.out.cell 4
        have cy5 := HY.out.cell 5
        have cy6 := HY.out.cell 6
        simp only [List.getElem?_toArray, List.getElem?_cons_zero, List.getElem?_cons_succ] at cy0 cy1 cy2 cy3 cy4 cy5 cy6
        have cz0 := HZ.out.cell 0
        have cz1 := HZ.out.cell 1
        have cz2 := HZ.out.cell 2
        have cz3 := HZ.out.cell 3
        have cz4 := HZ.out.cell 4
        have cz5 := HZ.out.cell 5
        have cz6 := HZ.out.cell 6
        simp only [List.getElem?_toArray, List.getElem?_cons_zero, List.getElem?_cons_succ] at cz0 cz1 cz2 cz3 cz4 cz5 cz6
        have HM := Lib.hid (tsame_any wB S S (.slice sa S.l.length sn) (.slice ta S.l.length tn) HSS.out.1.rd HTT.out.1.rd (by omega))
        rw [decide_eq_true (rfl : S = S)] at HM
        go_wp2_with fail
        go_at_call 11
        refine HM.out.mono ?_
        rintro e wC ⟨rfl, hck⟩
        replace HX := Lib.hid (HX.out.kept hck)
        clear hck
        go_wp2
        go_ret
        exact ⟨rfl, HX.out.chg⟩
      · have hdi : (3000 : Int) < (d.length : Int) := by omega
        go_wp2_with fail
        go_at_call 4
        refine (dfirst_any w4 (HT.out.kept HX.out.chg)).mono ?_
        rintro e x_ ⟨rfl, hck⟩
        replace HX := Lib.hid (HX.out.kept hck)
        clear hck
        go_wp2
        go_ret
        exact ⟨rfl, HX.out.chg⟩
theorem DiffTells_walk (w : World) (r0 c0 y0 x0 : Int) (h0 : Bool) (t0 : ByteArray) (va0 : Value) (l0 : List Ce) (hr0 : Rd w 5 va0 l0.length (cellsV l0)) (nk0 : NilOk va0) (wf0 : ∀ c ∈ l0, Ce.wf c) (w0 : ((-9223372036854775808 ≤ r0 ∧ r0 ≤ 9223372036854775807) ∧ (-9223372036854775808 ≤ c0 ∧ c0 ≤ 9223372036854775807) ∧ (-9223372036854775808 ≤ y0 ∧ y0 ≤ 9223372036854775807) ∧ -9223372036854775808 ≤ x0 ∧ x0 ≤ 9223372036854775807))
    (r1 c1 y1 x1 : Int) (h1 : Bool) (t1 : ByteArray) (va1 : Value) (l1 : List Ce) (hr1 : Rd w 5 va1 l1.length (cellsV l1)) (nk1 : NilOk va1) (wf1 : ∀ c ∈ l1, Ce.wf c) (w1 : ((-9223372036854775808 ≤ r1 ∧ r1 ≤ 9223372036854775807) ∧ (-9223372036854775808 ≤ c1 ∧ c1 ≤ 9223372036854775807) ∧ (-9223372036854775808 ≤ y1 ∧ y1 ≤ 9223372036854775807) ∧ -9223372036854775808 ≤ x1 ∧ x1 ≤ 9223372036854775807))
    (a2 : Option Addr) (len2 cap2 : Nat) (l2 : List Int) (hr2 : Rd w 1 (.slice a2 len2 cap2) len2 (l2.map (Value.int .u8))) (hl2 : l2.length = len2) (y2 : len2 * 1 ≤ 140737488351232) (w2 : ∀ x ∈ l2, 0 ≤ x ∧ x ≤ 255) (nk2 : NilOk (.slice a2 len2 cap2)) (ht : Tab w) :
    Calls Tryz.prog 3 #[scV r0 c0 va0 y0 x0 h0 t0, scV r1 c1 va1 y1 x1 h1 t1, .slice a2 len2 cap2] w fun e w' => e = .returned (.bool true) ∧ Chg w w' nob := by
  subst hl2
  exact DiffTells_sc w ⟨r0, c0, l0, y0, x0, h0, t0⟩ ⟨r1, c1, l1, y1, x1, h1, t1⟩ va0 va1 hr0 hr1 a2 cap2 l2 ⟨hr2, nk2, w2⟩ ht
end Go.Proofs.YtmbdpcamhkdkmaaGreatDoor

namespace Go.Proofs.YtmbdpcamhkdkmaaGreatDoor
open Go.ChangeShapes Go.WideShapes Go.Deep Go.RowKit
set_option linter.unusedVariables false

def fieldsOf (P : Program) (e : TypeId) : Array Field := match P.underlying e with | some (.struct fs) => fs | _ => #[]

section
variable {H : Type} {enc : TypeId × Value → H} {P : Program} {w : World} {base : Nat} {spare : Nat → Bool} {held : Bool}
theorem recs_cells {t e : TypeId} {c : Nat} {fuel : Nat} {a : Option Addr} {len cap : Nat} {x : DataW H × List MemPlace} (ht : P.underlying t = some (.slice e)) (hC : P.cellsOf e = c) (hc0 : 0 < c)
    (h : DataW.trod enc P w base spare held fuel t [.slice a len cap] = some x) : ∀ i, i < len →
      ∃ b o cs n y, a = some ⟨b, o, none⟩ ∧ cs.length = c ∧ (∀ j, j < c → w.cell? ⟨b, o + i * c + j, none⟩ = cs[j]?) ∧ DataW.trod enc P w base spare held n e cs = some y := by
  intro i hi
  rcases open_slice ht h with ⟨h0, _⟩ | ⟨a', len', cap', m, n, D, Pl, hcs, hb, hl, hm, hmm, hx, hrow⟩
  · cases h0; omega
  · cases hcs
    have him : i < m := by rw [hmm]; split <;> omega
    have h0 : w.cell? ((a'.add (0 * c)).add 0) ≠ none := by
      obtain ⟨cs0, hc, _⟩ := hrow 0 (by omega)
      rw [hC] at hc
      obtain ⟨_, hcl, hat⟩ := World.cells?_some hc
      rw [hat 0 hc0, List.getElem?_eq_getElem (by omega)]
      simp
    obtain ⟨cs', hc, ht'⟩ := hrow i him
    rw [hC] at hc
    obtain ⟨_, hcl, hat⟩ := World.cells?_some hc
    cases a' with
    | mk b o s =>
      cases s with
      | none => exact ⟨b, o, cs', n, _, rfl, hcl, fun j hj => by rw [← hat j hj, Addr.add_lit, Addr.add_lit], ht'⟩
      | some s =>
        exfalso
        refine h0 ?_
        simp only [Addr.add, Nat.zero_mul, if_true, World.cell?, Option.isSome_some]
        split <;> rfl
theorem recs_ints {t e : TypeId} {fuel : Nat} {a : Option Addr} {len cap : Nat} {x : DataW H × List MemPlace} (ks : List IntKind) (ht : P.underlying t = some (.slice e)) (he : P.underlying e = some (.struct (fieldsOf P e)))
    (hone : oneCellFields P (fieldsOf P e) = true) (hk : (fieldsOf P e).toList.map (fun f => P.underlying f.type) = ks.map fun k => some (.int k)) (hC : P.cellsOf e = ks.length) (hc0 : 0 < ks.length)
    (h : DataW.trod enc P w base spare held fuel t [.slice a len cap] = some x) : ∀ i, i < len →
      ∃ b o, a = some ⟨b, o, none⟩ ∧ ∀ j k, ks[j]? = some k → ∃ z, w.cell? ⟨b, o + i * ks.length + j, none⟩ = some (.int k z) ∧ (Lit.int k z).wf = true := by
  intro i hi
  obtain ⟨b, o, cs, n, y, rfl, hcl, hat, ht'⟩ := recs_cells ht hC hc0 h i hi
  refine ⟨b, o, rfl, fun j k hj => ?_⟩
  obtain ⟨ys, n', hn', hy, hlen, hyl, hf⟩ := DataW.trod_struct he ht'
  have hjl : j < ks.length := (List.getElem?_eq_some_iff.1 hj).1
  have hfl : (fieldsOf P e).size = ks.length := by have := congrArg List.length hk; simpa using this
  obtain ⟨f, hfj⟩ : ∃ f, (fieldsOf P e)[j]? = some f := ⟨_, Array.getElem?_eq_getElem (by omega)⟩
  obtain ⟨ho, h1⟩ := hone_of hone j f hfj
  have hu : P.underlying f.type = some (.int k) := by
    have := congrArg (fun l => l[j]?) hk
    simp only [List.getElem?_map, Array.getElem?_toList, hfj, hj, Option.map_some] at this
    exact Option.some.inj this
  have hv := hf j f hfj
  rw [ho, h1, List.drop_eq_getElem_cons (by omega)] at hv
  simp only [List.take_succ_cons, List.take_zero] at hv
  have hys : ys[j]? = some (ys[j]'(by omega)) := List.getElem?_eq_getElem (by omega)
  rw [hys] at hv
  obtain ⟨z, hz, _, hwf⟩ := DataW.trod_int hu hv
  refine ⟨z, ?_, hwf⟩
  rw [hat j hjl, List.getElem?_eq_getElem (by omega)]
  exact congrArg some (List.cons.inj hz).1
end
end Go.Proofs.YtmbdpcamhkdkmaaGreatDoor

namespace Go.Proofs.YtmbdpcamhkdkmaaGreatDoor
open Go.ChangeShapes Go.WideShapes Go.Deep Go.RowKit
set_option linter.unusedVariables false
section
variable {H : Type} {enc : TypeId × Value → H} {P : Program} {w : World} {base : Nat} {spare : Nat → Bool} {held : Bool}
theorem struct_ints {e : TypeId} {fuel : Nat} {cs : List Value} {y : DataW H × List MemPlace} (ks : List IntKind) (he : P.underlying e = some (.struct (fieldsOf P e)))
    (hone : oneCellFields P (fieldsOf P e) = true) (hk : (fieldsOf P e).toList.map (fun f => P.underlying f.type) = ks.map fun k => some (TypeDesc.int k)) (hcl : cs.length = ks.length)
    (ht' : DataW.trod enc P w base spare held fuel e cs = some y) : ∀ (j : Nat) (k : IntKind), ks[j]? = some k → ∃ z : Int, cs[j]? = some (Value.int k z) ∧ (Lit.int k z).wf = true := by
  intro j k hj
  obtain ⟨ys, n', hn', hy, hlen, hyl, hf⟩ := DataW.trod_struct he ht'
  have hjl : j < ks.length := (List.getElem?_eq_some_iff.1 hj).1
  have hfl : (fieldsOf P e).size = ks.length := by have := congrArg List.length hk; simpa using this
  obtain ⟨f, hfj⟩ : ∃ f, (fieldsOf P e)[j]? = some f := ⟨_, Array.getElem?_eq_getElem (by omega)⟩
  obtain ⟨ho, h1⟩ := hone_of hone j f hfj
  have hu : P.underlying f.type = some (.int k) := by
    have := congrArg (fun l => l[j]?) hk
    simp only [List.getElem?_map, Array.getElem?_toList, hfj, hj, Option.map_some] at this
    exact Option.some.inj this
  have hv := hf j f hfj
  rw [ho, h1, List.drop_eq_getElem_cons (by omega)] at hv
  simp only [List.take_succ_cons, List.take_zero] at hv
  have hys : ys[j]? = some (ys[j]'(by omega)) := List.getElem?_eq_getElem (by omega)
  rw [hys] at hv
  obtain ⟨z, hz, _, hwf⟩ := DataW.trod_int hu hv
  refine ⟨z, ?_, hwf⟩
  rw [List.getElem?_eq_getElem (by omega)]
  exact congrArg some (List.cons.inj hz).1
theorem agg3_ints {t : TypeId} {r : Reach} {b0 : Nat} {v : Value} {d : DataW H} {p : List MemPlace} (he : P.underlying t = some (.struct (fieldsOf P t)))
    (hone : oneCellFields P (fieldsOf P t) = true) (hk : (fieldsOf P t).toList.map (fun f => P.underlying f.type) = ([.i64, .i64, .i64] : List IntKind).map fun k => some (TypeDesc.int k)) (hC : P.cellsOf t = 3)
    (hv : Value.okWide P w r b0 t v) (h : DataW.Trod enc P w base spare held t v d p) :
    ∃ x y z : Int, v = .agg #[.int .i64 x, .int .i64 y, .int .i64 z] ∧ (Lit.int .i64 x).wf = true ∧ (Lit.int .i64 y).wf = true ∧ (Lit.int .i64 z).wf = true := by
  obtain ⟨cs, rfl, hsz⟩ := okWide_struct he hv
  rw [hC] at hsz
  obtain ⟨fuel, hf⟩ := h
  obtain ⟨l⟩ := cs
  match l, hsz, hf with
  | [c0, c1, c2], _, hf =>
    have hs := struct_ints [.i64, .i64, .i64] he hone hk (cs := [c0, c1, c2]) rfl (by simpa [Value.cells] using hf)
    obtain ⟨x, h0, w0⟩ := hs 0 .i64 rfl
    obtain ⟨y, h1, w1⟩ := hs 1 .i64 rfl
    obtain ⟨z, h2, w2⟩ := hs 2 .i64 rfl
    cases h0; cases h1; cases h2
    exact ⟨x, y, z, rfl, w0, w1, w2⟩
end
end Go.Proofs.YtmbdpcamhkdkmaaGreatDoor
