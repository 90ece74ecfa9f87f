
/-
  The document's Open.
-/
import Derived.Test.YtcgdmidjejmjhaaDoorPk4
namespace Go.Proofs.YtcgdmidjejmjhaaDoor
open Go.RowKit
set_option linter.unusedVariables false
set_option linter.unusedSimpArgs false

attribute [local go_sem ↓] run_cut_h run_cut_l bcut_lh
set_option maxRecDepth 100000 in
set_option maxHeartbeats 1500000 in
theorem ropen_any (w : World) (K B : List Int) (vk vb : Value) (hk : By w vk K) (hb : By w vb B) (hkl : K.length ≤ 1000000) (hbl : B.length ≤ 100000) :
    Calls Tryd.prog 24 #[vk, vb] w fun e w' => ∃ x, e = .returned (.tuple #[pkV (openL K B).1 x, .int .i64 (openL K B).2]) ∧ Bx w w' x (openL K B).1.b := by
  obtain ⟨ab, cb, rfl, hcb⟩ := hb.form
  have HK := Lib.hid hk
  have HB := Lib.hid hb
  clear hk hb
  have h0 : (0 : Int) ≤ (B.length : Int) := by omega
  have hsz : w.heap.size < (w.alloc (.cells #[.int .i64 0, .int .i64 0, .int .u64 0, .slice none 0 0] 56)).heap.size := by rw [size_al]; omega
  by_cases hs : B.length < 26
  · have HO : Hid (openL K B = (Pk.z, 3)) := Lib.hid (if_pos hs)
    rw [HO.out]
    have hsi : (B.length : Int) < 26 := by omega
    go_enter Tryd.func24, Tryd.ntmps24
    go_wp2
    go_returns
    exact ⟨_, rfl, (Bx.nil _).newer ((Chg.refl w nob).alloc _)⟩
  · obtain ⟨gb, ob, cb', hab', _, hcl⟩ := HB.out.at0 (by omega)
    cases hab'
    have HCL := Lib.hid hcl
    clear hcl
    obtain ⟨E, hE⟩ : ∃ E, B.length - 16 = E := ⟨_, rfl⟩
    have hEi : (B.length : Int) - 16 = (E : Int) := by omega
    have e0 : (0 : Int) ≤ (E : Int) := by omega
    have e1' : decide ((B.length : Int) < 26) = false := by simp; omega
    have e1n : decide (B.length < 26) = false := by simp; omega
    have e1 : ¬ B.length < 26 := by omega
    have e2 : (E : Int) ≤ (B.length : Int) := by omega
    have e3 : (E : Int) ≤ (cb : Int) := by omega
    have hEB : E ≤ B.length := by omega
    have HEL : Hid (B.length = E + 16) := Lib.hid (by omega)
    have HOL : Hid (openL K B = if tagL K (B.take E) = B.drop E then (if (openP K B).May then (openP K B, 0) else (Pk.z, 2)) else (Pk.z, 15)) := Lib.hid (by unfold openL; rw [if_neg hs, hE])
    have HOP : Hid (openP K B = ⟨B.getD 0 0, B.getD 1 0, numB ((B.take 10).drop 2), (B.take E).drop 10⟩) := Lib.hid (by unfold openP; rw [hE])
    have h26 : 26 ≤ B.length := by omega
    clear hE hs
    have HR : Hid (∃ r, openL K B = r) := Lib.hid ⟨_, rfl⟩
    obtain ⟨R, hR⟩ := HR.out
    rw [hR] at HOL ⊢
    clear hR HR
    obtain ⟨bb, hbb⟩ : ∃ x, decide (tagL K (B.take E) = B.drop E) = x := ⟨_, rfl⟩
    have HBB := Lib.hid hbb
    clear hbb
    go_enter Tryd.func24, Tryd.ntmps24
    go_wp2_with fail
    obtain ⟨w1, hw1⟩ : ∃ W, w.alloc (.cells #[.int .i64 0, .int .i64 0, .int .u64 0, .slice none 0 0] 56) = W := ⟨_, rfl⟩
    have HZ1 : Hid (Blk w1 w.heap.size 56 #[.int .i64 0, .int .i64 0, .int .u64 0, .slice none 0 0]) := Lib.hid (by rw [← hw1]; exact Blk.new w _ _)
    have HC1 : Hid (Chg w w1 nob) := Lib.hid (by rw [← hw1]; exact (Chg.refl w nob).alloc _)
    rw [hw1]
    clear hw1 hsz
    refine wp_one [] [4, 8] [] [0, 1, 2, 3, 5, 6, 7, 4, 8, 9] rfl (by kernel_rfl) (fun _ _ _ _ _ h => h) ?_; simp only [List.map_cons, List.map_nil, List.getElem?_toArray, List.getElem?_cons_zero, List.getElem?_cons_succ]
    obtain ⟨wd, hwd⟩ : ∃ W, World.drew w1 = W := ⟨_, rfl⟩
    have HCd : Hid (Chg w1 wd nob) := Lib.hid (by rw [← hwd]; exact (Chg.refl w1 nob).drew)
    have HWd : Hid (Chg w wd nob) := Lib.hid (HC1.out.trans HCd.out (fun _ _ h => h))
    rw [hwd]
    clear hwd
    (repeat (first | (apply can0; (· rfl); (· rfl); (· (intro w'; first | (go_simp; with_reducible rfl) | (go_simp; done))); simp only [Act.put, List.setIfInBounds_toArray, List.set_cons_zero, List.set_cons_succ]) | (apply can1; (· rfl); (· rfl); (· (first | (go_simp; with_reducible rfl) | (go_simp; done))); simp only [Act.put, List.setIfInBounds_toArray, List.set_cons_zero, List.set_cons_succ]) | (apply canN; (· rfl); (· rfl); simp only [Act.put, List.setIfInBounds_toArray, List.set_cons_zero, List.set_cons_succ]) | (apply canN1; (· rfl); (· rfl); simp only [Act.put, List.setIfInBounds_toArray, List.set_cons_zero, List.set_cons_succ]) | (apply can0; (· rfl); (· (go_simp; done)); (· (intro w'; first | (go_simp; with_reducible rfl) | (go_simp; done))); simp only [Act.put, List.setIfInBounds_toArray, List.set_cons_zero, List.set_cons_succ]) | (apply can1; (· rfl); (· (go_simp; done)); (· (first | (go_simp; with_reducible rfl) | (go_simp; done))); simp only [Act.put, List.setIfInBounds_toArray, List.set_cons_zero, List.set_cons_succ]) | (apply canN; (· rfl); (· (go_simp; done)); simp only [Act.put, List.setIfInBounds_toArray, List.set_cons_zero, List.set_cons_succ]) | (apply canN1; (· rfl); (· (go_simp; done)); simp only [Act.put, List.setIfInBounds_toArray, List.set_cons_zero, List.set_cons_succ])))
    refine canW rfl [] rfl (fun K hK => ?_)
    go_simp
    go_at_call 29
    refine (rtag_by (HK.out.kept HWd.out) ((HB.out.kept HWd.out).take hEB) hkl (by simp; omega)).mono ?_
    rintro e w2 ⟨v2, rfl, hb2, hc2⟩
    have HB2 := Lib.hid hb2
    have HW2 : Hid (Chg w w2 nob) := Lib.hid (HWd.out.trans hc2 (fun _ _ h => h))
    have HZ2 : Hid (Blk w2 w.heap.size 56 #[.int .i64 0, .int .i64 0, .int .u64 0, .slice none 0 0]) := Lib.hid (HZ1.out.kept (HCd.out.trans hc2 (fun _ _ h => h)) id)
    clear hb2 hc2
    (refine hK _ _ (fun u hu => by cases hu) ?_; clear hK K; try simp only [Act.put, List.setIfInBounds_toArray, List.set_cons_zero, List.set_cons_succ])
    (repeat (first | (apply can0; (· rfl); (· rfl); (· (intro w'; first | (go_simp; with_reducible rfl) | (go_simp; done))); simp only [Act.put, List.setIfInBounds_toArray, List.set_cons_zero, List.set_cons_succ]) | (apply can1; (· rfl); (· rfl); (· (first | (go_simp; with_reducible rfl) | (go_simp; done))); simp only [Act.put, List.setIfInBounds_toArray, List.set_cons_zero, List.set_cons_succ]) | (apply canN; (· rfl); (· rfl); simp only [Act.put, List.setIfInBounds_toArray, List.set_cons_zero, List.set_cons_succ]) | (apply canN1; (· rfl); (· rfl); simp only [Act.put, List.setIfInBounds_toArray, List.set_cons_zero, List.set_cons_succ]) | (apply can0; (· rfl); (· (go_simp; done)); (· (intro w'; first | (go_simp; with_reducible rfl) | (go_simp; done))); simp only [Act.put, List.setIfInBounds_toArray, List.set_cons_zero, List.set_cons_succ]) | (apply can1; (· rfl); (· (go_simp; done)); (· (first | (go_simp; with_reducible rfl) | (go_simp; done))); simp only [Act.put, List.setIfInBounds_toArray, List.set_cons_zero, List.set_cons_succ]) | (apply canN; (· rfl); (· (go_simp; done)); simp only [Act.put, List.setIfInBounds_toArray, List.set_cons_zero, List.set_cons_succ]) | (apply canN1; (· rfl); (· (go_simp; done)); simp only [Act.put, List.setIfInBounds_toArray, List.set_cons_zero, List.set_cons_succ])))
    refine canW rfl [] rfl (fun K hK => ?_)
    go_simp
    go_at_call 12
    refine (bytes_by HB2.out ((HB.out.kept HW2.out).drop hEB)).mono ?_
    rw [HBB.out]
    rintro e x ⟨rfl, rfl⟩
    (refine hK _ _ (fun u hu => by cases hu) ?_; clear hK K; try simp only [Act.put, List.setIfInBounds_toArray, List.set_cons_zero, List.set_cons_succ])
    (repeat (first | (apply can0; (· rfl); (· rfl); (· (intro w'; first | (go_simp; with_reducible rfl) | (go_simp; done))); simp only [Act.put, List.setIfInBounds_toArray, List.set_cons_zero, List.set_cons_succ]) | (apply can1; (· rfl); (· rfl); (· (first | (go_simp; with_reducible rfl) | (go_simp; done))); simp only [Act.put, List.setIfInBounds_toArray, List.set_cons_zero, List.set_cons_succ]) | (apply canN; (· rfl); (· rfl); simp only [Act.put, List.setIfInBounds_toArray, List.set_cons_zero, List.set_cons_succ]) | (apply canN1; (· rfl); (· rfl); simp only [Act.put, List.setIfInBounds_toArray, List.set_cons_zero, List.set_cons_succ]) | (apply can0; (· rfl); (· (go_simp; done)); (· (intro w'; first | (go_simp; with_reducible rfl) | (go_simp; done))); simp only [Act.put, List.setIfInBounds_toArray, List.set_cons_zero, List.set_cons_succ]) | (apply can1; (· rfl); (· (go_simp; done)); (· (first | (go_simp; with_reducible rfl) | (go_simp; done))); simp only [Act.put, List.setIfInBounds_toArray, List.set_cons_zero, List.set_cons_succ]) | (apply canN; (· rfl); (· (go_simp; done)); simp only [Act.put, List.setIfInBounds_toArray, List.set_cons_zero, List.set_cons_succ]) | (apply canN1; (· rfl); (· (go_simp; done)); simp only [Act.put, List.setIfInBounds_toArray, List.set_cons_zero, List.set_cons_succ])))
    refine canE ?_
    have z0 := HZ2.out.cell 0
    have z1 := HZ2.out.cell 1
    have z2 := HZ2.out.cell 2
    have z3 := HZ2.out.cell 3
    simp only [List.getElem?_toArray, List.getElem?_cons_zero, List.getElem?_cons_succ] at z0 z1 z2 z3
    have f0 := HZ2.out.free 0
    have f1 := HZ2.out.free 1
    have f2 := HZ2.out.free 2
    have f3 := HZ2.out.free 3
    cases bb
    · have HRR : Hid (R = (Pk.z, 15)) := Lib.hid (by rw [HOL.out, if_neg (of_decide_eq_false HBB.out)])
      go_wp2
      obtain ⟨wz, hwz⟩ : ∃ W, ((((World.setCell w2 ⟨w.heap.size, 0, none⟩ (.int .i64 0)).setCell ⟨w.heap.size, 1, none⟩ (.int .i64 0)).setCell ⟨w.heap.size, 2, none⟩ (.int .u64 0)).setCell ⟨w.heap.size, 3, none⟩ (.slice none 0 0)) = W := ⟨_, rfl⟩
      have hz : Blk wz w.heap.size 56 #[.int .i64 0, .int .i64 0, .int .u64 0, .slice none 0 0] := by rw [← hwz]; exact st4 HZ2.out rfl
      have HCZ : Hid (Chg w wz nob) := Lib.hid (by rw [← hwz]; exact ch4 HW2.out (Nat.le_refl _))
      rw [hwz]
      clear z0 z1 z2 z3 hwz
      have z0 := hz.cell 0
      have z1 := hz.cell 1
      have z2 := hz.cell 2
      have z3 := hz.cell 3
      simp only [List.getElem?_toArray, List.getElem?_cons_zero, List.getElem?_cons_succ] at z0 z1 z2 z3
      refine bodyPost_ret (v := .tuple #[pkV Pk.z (.slice none 0 0), .int .i64 15]) (by simp [results, Tryd.results24, go_sem, z0, z1, z2, z3, pkV, Pk.z]) rfl ?_
      rw [HRR.out]
      exact ⟨_, rfl, (Bx.nil _).newer HCZ.out⟩
    · have HOM : Hid (R = if (openP K B).May then (openP K B, 0) else (Pk.z, 2)) := Lib.hid (by rw [HOL.out, if_pos (of_decide_eq_true HBB.out)])
      clear HB2 z0 z1 z2 z3 f0 f1 f2 f3 HZ1 HC1 HCd HWd
      obtain ⟨D, hD⟩ : ∃ D, (B.take E).drop 10 = D := ⟨_, rfl⟩
      have HBD : Hid (By w (.slice (addS (some ⟨gb, ob, none⟩) cb 10) (E - 10) (cb - 10)) D) := Lib.hid (by rw [← hD]; exact HB.out.mid (by omega) hEB)
      have HDL : Hid (D.length ≤ 100000) := Lib.hid (by rw [← hD]; simp; omega)
      obtain ⟨H8, hH8⟩ : ∃ D, (B.take 10).drop 2 = D := ⟨_, rfl⟩
      have HBH : Hid (By w (.slice (addS (some ⟨gb, ob, none⟩) cb 2) 8 (cb - 2)) H8) := Lib.hid (by rw [← hH8]; exact HB.out.mid (l := 2) (m := 10) (by omega) (by omega))
      have HHL : Hid (H8.length = 8) := Lib.hid (by rw [← hH8]; simp; omega)
      have hc10 : (10 : Int) ≤ (E : Int) := by omega
      have hb10 : (10 : Int) ≤ (cb : Int) := by omega
      have hb10' : (10 : Int) ≤ (B.length : Int) := by omega
      have hl0 : 0 < B.length := by omega
      have hl1 : 1 < B.length := by omega
      have hl1i : (1 : Int) < (B.length : Int) := by omega
      have c0 := HCL.out 0 (by omega)
      have c1 := HCL.out 1 (by omega)
      rw [Nat.add_zero] at c0
      obtain ⟨d0, hd0⟩ : ∃ x, B.getD 0 0 = x := ⟨_, rfl⟩
      obtain ⟨d1, hd1⟩ : ∃ x, B.getD 1 0 = x := ⟨_, rfl⟩
      have HOQ : Hid (openP K B = ⟨d0, d1, numB H8, D⟩) := Lib.hid (by rw [HOP.out, hD, hH8, hd0, hd1])
      have hd0b := HB.out.byte (B.getD 0 0) (by simp [List.getD, show 0 < B.length by omega])
      have hd1b := HB.out.byte (B.getD 1 0) (by simp [List.getD, show 1 < B.length by omega])
      rw [hd0] at c0 hd0b
      rw [hd1] at c1 hd1b
      obtain ⟨b00, b01⟩ := hd0b
      obtain ⟨b10, b11⟩ := hd1b
      rw [HOQ.out] at HOM
      have C0 := Lib.hid c0
      have C1 := Lib.hid c1
      have i64d0 : IntKind.i64.wrap d0 = d0 := by simp only [IntKind.wrap, IntKind.bits, IntKind.signed]; simp; omega
      have i64d1 : IntKind.i64.wrap d1 = d1 := by simp only [IntKind.wrap, IntKind.bits, IntKind.signed]; simp; omega
      clear hD hH8 hd0 hd1 HOP HOQ c0 c1
      go_upto_region 6 with (fail)
      go_cut [7] (fun pv wx => ∃ (g : Nat) (ax : Option Addr) (cx : Nat), pv = .pointer (some ⟨g, 0, none⟩) ∧ g ≠ w.heap.size ∧ w.heap.size ≤ g ∧ Hid (Blk wx g 56 #[.int .i64 d0, .int .i64 d1, .int .u64 (numB H8), .slice ax D.length cx]) ∧ Hid (Blk wx w.heap.size 56 #[.int .i64 0, .int .i64 0, .int .u64 0, .slice none 0 0]) ∧ Hid (Bx w wx (.slice ax D.length cx) D))
      case first =>
        refine wp_lanes [2, 6] [10, 14, 16, 17] [⟨[10, 14, 16, 17], [(10, [2, 6]), (14, [2, 6]), (16, [2, 6])], [0, 1, 2, 3, 4, 5, 6, 7, 8, 9, 11, 12, 13, 10, 14, 15, 16, 17]⟩, ⟨[10, 16, 14, 17], [(10, [2, 6]), (16, [2, 6]), (14, [2, 6])], [0, 1, 2, 3, 4, 5, 6, 7, 8, 9, 11, 12, 13, 10, 16, 14, 15, 17]⟩, ⟨[16, 10, 14, 17], [(16, [2, 6]), (10, [2, 6]), (14, [2, 6])], [0, 1, 2, 3, 4, 5, 6, 7, 8, 9, 11, 12, 13, 16, 10, 14, 15, 17]⟩] rfl (by kernel_rfl) (fun _ _ _ _ _ h => h) ?_; simp only [wpAll, List.map_cons, List.map_nil, List.getElem?_toArray, List.getElem?_cons_zero, List.getElem?_cons_succ]; refine ⟨?_, ?_, ?_, trivial⟩
        all_goals (obtain ⟨wd, hwd⟩ : ∃ W, World.drew w2 = W := ⟨_, rfl⟩)
        all_goals rw [hwd]
        all_goals (have hcd : Chg w2 wd nob := by rw [← hwd]; exact (Chg.refl w2 nob).drew)
        all_goals clear hwd
        all_goals (have hwd : Chg w wd nob := HW2.out.trans hcd (fun _ _ h => h))
        all_goals (have hz : Chg w2 wd nob := hcd)
        all_goals have c0wd := hwd.cell C0.out id
        all_goals have c1wd := hwd.cell C1.out id
        · (repeat (first | (apply can0; (· rfl); (· rfl); (· (intro w'; first | (go_simp; with_reducible rfl) | (go_simp; done))); simp only [Act.put, List.setIfInBounds_toArray, List.set_cons_zero, List.set_cons_succ]) | (apply can1; (· rfl); (· rfl); (· (first | (go_simp; with_reducible rfl) | (go_simp; done))); simp only [Act.put, List.setIfInBounds_toArray, List.set_cons_zero, List.set_cons_succ]) | (apply canN; (· rfl); (· rfl); simp only [Act.put, List.setIfInBounds_toArray, List.set_cons_zero, List.set_cons_succ]) | (apply canN1; (· rfl); (· rfl); simp only [Act.put, List.setIfInBounds_toArray, List.set_cons_zero, List.set_cons_succ]) | (apply can0; (· rfl); (· (go_simp; done)); (· (intro w'; first | (go_simp; with_reducible rfl) | (go_simp; done))); simp only [Act.put, List.setIfInBounds_toArray, List.set_cons_zero, List.set_cons_succ]) | (apply can1; (· rfl); (· (go_simp; done)); (· (first | (go_simp; with_reducible rfl) | (go_simp; done))); simp only [Act.put, List.setIfInBounds_toArray, List.set_cons_zero, List.set_cons_succ]) | (apply canN; (· rfl); (· (go_simp; done)); simp only [Act.put, List.setIfInBounds_toArray, List.set_cons_zero, List.set_cons_succ]) | (apply canN1; (· rfl); (· (go_simp; done)); simp only [Act.put, List.setIfInBounds_toArray, List.set_cons_zero, List.set_cons_succ])))
          refine canW rfl [2, 6] rfl (fun K hK => ?_)
          go_simp
          go_at_call 32
          refine (big8_any wd _ H8 (HBH.out.kept hwd) (by rw [HHL.out]; omega)).mono ?_
          rintro e x ⟨rfl, rfl⟩
          (refine hK _ _ (fun u hu => by (simp only [List.mem_cons, List.not_mem_nil, or_false] at hu); (first | (subst hu; exact reRun_mk rfl (by first | (go_simp; with_reducible rfl) | (go_simp; done)) (holds_at rfl)) | ((repeat' (first | (rcases hu with rfl | hu) | (subst hu))) <;> exact reRun_mk rfl (by first | (go_simp; with_reducible rfl) | (go_simp; done)) (holds_at rfl)))) ?_; clear hK K; try simp only [Act.put, List.setIfInBounds_toArray, List.set_cons_zero, List.set_cons_succ])
          refine canW rfl [2, 6] rfl (fun K hK => ?_)
          go_simp
          go_at_call 19
          refine (copy_by (HBD.out.kept hwd) (by have := HDL.out; omega)).mono ?_
          rintro e wa ⟨vx, rfl, hbx⟩
          have hcq := hbx.2.1
          have hcwa : Chg w wa nob := hwd.trans hbx.2.1 (fun _ _ h => h)
          have HBX := Lib.hid (hbx.newer hwd)
          replace hz := hz.trans hbx.2.1 (fun _ _ h => h)
          obtain ⟨ax, cx, rfl, _⟩ := hbx.1.form
          clear c0wd c1wd hbx
          have c0wa := hcwa.cell C0.out id
          have c1wa := hcwa.cell C1.out id
          (refine hK _ _ (fun u hu => by (simp only [List.mem_cons, List.not_mem_nil, or_false] at hu); (first | (subst hu; exact reRun_mk rfl (by first | (go_simp; with_reducible rfl) | (go_simp; done)) (holds_at rfl)) | ((repeat' (first | (rcases hu with rfl | hu) | (subst hu))) <;> exact reRun_mk rfl (by first | (go_simp; with_reducible rfl) | (go_simp; done)) (holds_at rfl)))) ?_; clear hK K; try simp only [Act.put, List.setIfInBounds_toArray, List.set_cons_zero, List.set_cons_succ])
          (repeat (first | (apply can0; (· rfl); (· rfl); (· (intro w'; first | (go_simp; with_reducible rfl) | (go_simp; done))); simp only [Act.put, List.setIfInBounds_toArray, List.set_cons_zero, List.set_cons_succ]) | (apply can1; (· rfl); (· rfl); (· (first | (go_simp; with_reducible rfl) | (go_simp; done))); simp only [Act.put, List.setIfInBounds_toArray, List.set_cons_zero, List.set_cons_succ]) | (apply canN; (· rfl); (· rfl); simp only [Act.put, List.setIfInBounds_toArray, List.set_cons_zero, List.set_cons_succ]) | (apply canN1; (· rfl); (· rfl); simp only [Act.put, List.setIfInBounds_toArray, List.set_cons_zero, List.set_cons_succ]) | (apply can0; (· rfl); (· (go_simp; done)); (· (intro w'; first | (go_simp; with_reducible rfl) | (go_simp; done))); simp only [Act.put, List.setIfInBounds_toArray, List.set_cons_zero, List.set_cons_succ]) | (apply can1; (· rfl); (· (go_simp; done)); (· (first | (go_simp; with_reducible rfl) | (go_simp; done))); simp only [Act.put, List.setIfInBounds_toArray, List.set_cons_zero, List.set_cons_succ]) | (apply canN; (· rfl); (· (go_simp; done)); simp only [Act.put, List.setIfInBounds_toArray, List.set_cons_zero, List.set_cons_succ]) | (apply canN1; (· rfl); (· (go_simp; done)); simp only [Act.put, List.setIfInBounds_toArray, List.set_cons_zero, List.set_cons_succ])))
          refine canW rfl [2, 6] rfl (fun K hK => ?_)
          go_simp
          obtain ⟨wb, hwb⟩ : ∃ W, World.alloc wa (.cells #[.int .i64 0, .int .i64 0, .int .u64 0, .slice none 0 0] 56) = W := ⟨_, rfl⟩
          have hab : Chg wa wb nob := by rw [← hwb]; exact (Chg.refl wa nob).alloc _
          have hcwwb : Chg w wb nob := hcwa.trans hab (fun _ _ h => h)
          have hgt := hz.size
          replace hz := hz.trans hab (fun _ _ h => h)
          have HGwb : Hid (Blk wb wa.heap.size 56 #[.int .i64 0, .int .i64 0, .int .u64 0, .slice none 0 0]) := Lib.hid (by rw [← hwb]; exact Blk.new _ _ _)
          rw [hwb]
          clear hwb c0wa c1wa
          have c0wb := hcwwb.cell C0.out id
          have c1wb := hcwwb.cell C1.out id
          have HBX2 := Lib.hid (HBX.out.keptC hab)
          (refine hK _ _ (fun u hu => by (simp only [List.mem_cons, List.not_mem_nil, or_false] at hu); (first | (subst hu; exact reRun_mk rfl (by first | (go_simp; with_reducible rfl) | (go_simp; done)) (holds_at rfl)) | ((repeat' (first | (rcases hu with rfl | hu) | (subst hu))) <;> exact reRun_mk rfl (by first | (go_simp; with_reducible rfl) | (go_simp; done)) (holds_at rfl)))) ?_; clear hK K; try simp only [Act.put, List.setIfInBounds_toArray, List.set_cons_zero, List.set_cons_succ])
          have q0 := HGwb.out.cell 0
          have q1 := HGwb.out.cell 1
          have q2 := HGwb.out.cell 2
          have q3 := HGwb.out.cell 3
          simp only [List.getElem?_toArray, List.getElem?_cons_zero, List.getElem?_cons_succ] at q0 q1 q2 q3
          have r0 := HGwb.out.free 0
          have r1 := HGwb.out.free 1
          have r2 := HGwb.out.free 2
          have r3 := HGwb.out.free 3
          refine canW rfl [] rfl (fun K hK => ?_)
          go_simp
          (refine hK _ _ (fun u hu => by cases hu) ?_; clear hK K; try simp only [Act.put, List.setIfInBounds_toArray, List.set_cons_zero, List.set_cons_succ])
          refine canE ?_
          go_wp2
          go_meet
          have hgn : wa.heap.size ≠ w.heap.size := by have h1 := HZ2.out.lt; omega
          have hgl : w.heap.size ≤ wa.heap.size := by have h1 := HZ2.out.lt; omega
          exact ⟨_, _, _, rfl, hgn, hgl, Lib.hid (st4 HGwb.out rfl), Lib.hid ((HZ2.out.kept hz id).kept cr4 (Ne.symm hgn)), Lib.hid ⟨HBX2.out.1.kept cr4 (fun k hk e => HBX2.out.1.ne HGwb.out (by decide) (e ▸ hk)), ch4 HBX2.out.2.1 hgl, HBX2.out.2.2⟩⟩
        · (repeat (first | (apply can0; (· rfl); (· rfl); (· (intro w'; first | (go_simp; with_reducible rfl) | (go_simp; done))); simp only [Act.put, List.setIfInBounds_toArray, List.set_cons_zero, List.set_cons_succ]) | (apply can1; (· rfl); (· rfl); (· (first | (go_simp; with_reducible rfl) | (go_simp; done))); simp only [Act.put, List.setIfInBounds_toArray, List.set_cons_zero, List.set_cons_succ]) | (apply canN; (· rfl); (· rfl); simp only [Act.put, List.setIfInBounds_toArray, List.set_cons_zero, List.set_cons_succ]) | (apply canN1; (· rfl); (· rfl); simp only [Act.put, List.setIfInBounds_toArray, List.set_cons_zero, List.set_cons_succ]) | (apply can0; (· rfl); (· (go_simp; done)); (· (intro w'; first | (go_simp; with_reducible rfl) | (go_simp; done))); simp only [Act.put, List.setIfInBounds_toArray, List.set_cons_zero, List.set_cons_succ]) | (apply can1; (· rfl); (· (go_simp; done)); (· (first | (go_simp; with_reducible rfl) | (go_simp; done))); simp only [Act.put, List.setIfInBounds_toArray, List.set_cons_zero, List.set_cons_succ]) | (apply canN; (· rfl); (· (go_simp; done)); simp only [Act.put, List.setIfInBounds_toArray, List.set_cons_zero, List.set_cons_succ]) | (apply canN1; (· rfl); (· (go_simp; done)); simp only [Act.put, List.setIfInBounds_toArray, List.set_cons_zero, List.set_cons_succ])))
          refine canW rfl [2, 6] rfl (fun K hK => ?_)
          go_simp
          go_at_call 32
          refine (big8_any wd _ H8 (HBH.out.kept hwd) (by rw [HHL.out]; omega)).mono ?_
          rintro e x ⟨rfl, rfl⟩
          (refine hK _ _ (fun u hu => by (simp only [List.mem_cons, List.not_mem_nil, or_false] at hu); (first | (subst hu; exact reRun_mk rfl (by first | (go_simp; with_reducible rfl) | (go_simp; done)) (holds_at rfl)) | ((repeat' (first | (rcases hu with rfl | hu) | (subst hu))) <;> exact reRun_mk rfl (by first | (go_simp; with_reducible rfl) | (go_simp; done)) (holds_at rfl)))) ?_; clear hK K; try simp only [Act.put, List.setIfInBounds_toArray, List.set_cons_zero, List.set_cons_succ])
          refine canW rfl [2, 6] rfl (fun K hK => ?_)
          go_simp
          obtain ⟨wa, hwa⟩ : ∃ W, World.alloc wd (.cells #[.int .i64 0, .int .i64 0, .int .u64 0, .slice none 0 0] 56) = W := ⟨_, rfl⟩
          have hab : Chg wd wa nob := by rw [← hwa]; exact (Chg.refl wd nob).alloc _
          have hcwwa : Chg w wa nob := hwd.trans hab (fun _ _ h => h)
          have hgt := hz.size
          replace hz := hz.trans hab (fun _ _ h => h)
          have HGwa : Hid (Blk wa wd.heap.size 56 #[.int .i64 0, .int .i64 0, .int .u64 0, .slice none 0 0]) := Lib.hid (by rw [← hwa]; exact Blk.new _ _ _)
          rw [hwa]
          clear hwa c0wd c1wd
          have c0wa := hcwwa.cell C0.out id
          have c1wa := hcwwa.cell C1.out id
          (refine hK _ _ (fun u hu => by (simp only [List.mem_cons, List.not_mem_nil, or_false] at hu); (first | (subst hu; exact reRun_mk rfl (by first | (go_simp; with_reducible rfl) | (go_simp; done)) (holds_at rfl)) | ((repeat' (first | (rcases hu with rfl | hu) | (subst hu))) <;> exact reRun_mk rfl (by first | (go_simp; with_reducible rfl) | (go_simp; done)) (holds_at rfl)))) ?_; clear hK K; try simp only [Act.put, List.setIfInBounds_toArray, List.set_cons_zero, List.set_cons_succ])
          refine canW rfl [2, 6] rfl (fun K hK => ?_)
          go_simp
          go_at_call 19
          refine (copy_by (HBD.out.kept hcwwa) (by have := HDL.out; omega)).mono ?_
          rintro e wb ⟨vx, rfl, hbx⟩
          have hcq := hbx.2.1
          have hcwa : Chg w wb nob := hcwwa.trans hbx.2.1 (fun _ _ h => h)
          have HBX := Lib.hid (hbx.newer hcwwa)
          replace hz := hz.trans hbx.2.1 (fun _ _ h => h)
          obtain ⟨ax, cx, rfl, _⟩ := hbx.1.form
          clear c0wa c1wa hbx
          have c0wb := hcwa.cell C0.out id
          have c1wb := hcwa.cell C1.out id
          (refine hK _ _ (fun u hu => by (simp only [List.mem_cons, List.not_mem_nil, or_false] at hu); (first | (subst hu; exact reRun_mk rfl (by first | (go_simp; with_reducible rfl) | (go_simp; done)) (holds_at rfl)) | ((repeat' (first | (rcases hu with rfl | hu) | (subst hu))) <;> exact reRun_mk rfl (by first | (go_simp; with_reducible rfl) | (go_simp; done)) (holds_at rfl)))) ?_; clear hK K; try simp only [Act.put, List.setIfInBounds_toArray, List.set_cons_zero, List.set_cons_succ])
          have HBX2 := HBX
          have HGwb := Lib.hid (HGwa.out.kept hcq id)
          (repeat (first | (apply can0; (· rfl); (· rfl); (· (intro w'; first | (go_simp; with_reducible rfl) | (go_simp; done))); simp only [Act.put, List.setIfInBounds_toArray, List.set_cons_zero, List.set_cons_succ]) | (apply can1; (· rfl); (· rfl); (· (first | (go_simp; with_reducible rfl) | (go_simp; done))); simp only [Act.put, List.setIfInBounds_toArray, List.set_cons_zero, List.set_cons_succ]) | (apply canN; (· rfl); (· rfl); simp only [Act.put, List.setIfInBounds_toArray, List.set_cons_zero, List.set_cons_succ]) | (apply canN1; (· rfl); (· rfl); simp only [Act.put, List.setIfInBounds_toArray, List.set_cons_zero, List.set_cons_succ]) | (apply can0; (· rfl); (· (go_simp; done)); (· (intro w'; first | (go_simp; with_reducible rfl) | (go_simp; done))); simp only [Act.put, List.setIfInBounds_toArray, List.set_cons_zero, List.set_cons_succ]) | (apply can1; (· rfl); (· (go_simp; done)); (· (first | (go_simp; with_reducible rfl) | (go_simp; done))); simp only [Act.put, List.setIfInBounds_toArray, List.set_cons_zero, List.set_cons_succ]) | (apply canN; (· rfl); (· (go_simp; done)); simp only [Act.put, List.setIfInBounds_toArray, List.set_cons_zero, List.set_cons_succ]) | (apply canN1; (· rfl); (· (go_simp; done)); simp only [Act.put, List.setIfInBounds_toArray, List.set_cons_zero, List.set_cons_succ])))
          have q0 := HGwb.out.cell 0
          have q1 := HGwb.out.cell 1
          have q2 := HGwb.out.cell 2
          have q3 := HGwb.out.cell 3
          simp only [List.getElem?_toArray, List.getElem?_cons_zero, List.getElem?_cons_succ] at q0 q1 q2 q3
          have r0 := HGwb.out.free 0
          have r1 := HGwb.out.free 1
          have r2 := HGwb.out.free 2
          have r3 := HGwb.out.free 3
          refine canW rfl [] rfl (fun K hK => ?_)
          go_simp
          (refine hK _ _ (fun u hu => by cases hu) ?_; clear hK K; try simp only [Act.put, List.setIfInBounds_toArray, List.set_cons_zero, List.set_cons_succ])
          refine canE ?_
          go_wp2
          go_meet
          have hgn : wd.heap.size ≠ w.heap.size := by have h1 := HZ2.out.lt; omega
          have hgl : w.heap.size ≤ wd.heap.size := by have h1 := HZ2.out.lt; omega
          exact ⟨_, _, _, rfl, hgn, hgl, Lib.hid (st4 HGwb.out rfl), Lib.hid ((HZ2.out.kept hz id).kept cr4 (Ne.symm hgn)), Lib.hid ⟨HBX2.out.1.kept cr4 (fun k hk e => HBX2.out.1.ne HGwb.out (by decide) (e ▸ hk)), ch4 HBX2.out.2.1 hgl, HBX2.out.2.2⟩⟩
        · (repeat (first | (apply can0; (· rfl); (· rfl); (· (intro w'; first | (go_simp; with_reducible rfl) | (go_simp; done))); simp only [Act.put, List.setIfInBounds_toArray, List.set_cons_zero, List.set_cons_succ]) | (apply can1; (· rfl); (· rfl); (· (first | (go_simp; with_reducible rfl) | (go_simp; done))); simp only [Act.put, List.setIfInBounds_toArray, List.set_cons_zero, List.set_cons_succ]) | (apply canN; (· rfl); (· rfl); simp only [Act.put, List.setIfInBounds_toArray, List.set_cons_zero, List.set_cons_succ]) | (apply canN1; (· rfl); (· rfl); simp only [Act.put, List.setIfInBounds_toArray, List.set_cons_zero, List.set_cons_succ]) | (apply can0; (· rfl); (· (go_simp; done)); (· (intro w'; first | (go_simp; with_reducible rfl) | (go_simp; done))); simp only [Act.put, List.setIfInBounds_toArray, List.set_cons_zero, List.set_cons_succ]) | (apply can1; (· rfl); (· (go_simp; done)); (· (first | (go_simp; with_reducible rfl) | (go_simp; done))); simp only [Act.put, List.setIfInBounds_toArray, List.set_cons_zero, List.set_cons_succ]) | (apply canN; (· rfl); (· (go_simp; done)); simp only [Act.put, List.setIfInBounds_toArray, List.set_cons_zero, List.set_cons_succ]) | (apply canN1; (· rfl); (· (go_simp; done)); simp only [Act.put, List.setIfInBounds_toArray, List.set_cons_zero, List.set_cons_succ])))
          refine canW rfl [2, 6] rfl (fun K hK => ?_)
          go_simp
          obtain ⟨wa, hwa⟩ : ∃ W, World.alloc wd (.cells #[.int .i64 0, .int .i64 0, .int .u64 0, .slice none 0 0] 56) = W := ⟨_, rfl⟩
          have hab : Chg wd wa nob := by rw [← hwa]; exact (Chg.refl wd nob).alloc _
          have hcwwa : Chg w wa nob := hwd.trans hab (fun _ _ h => h)
          have hgt := hz.size
          replace hz := hz.trans hab (fun _ _ h => h)
          have HGwa : Hid (Blk wa wd.heap.size 56 #[.int .i64 0, .int .i64 0, .int .u64 0, .slice none 0 0]) := Lib.hid (by rw [← hwa]; exact Blk.new _ _ _)
          rw [hwa]
          clear hwa c0wd c1wd
          have c0wa := hcwwa.cell C0.out id
          have c1wa := hcwwa.cell C1.out id
          (refine hK _ _ (fun u hu => by (simp only [List.mem_cons, List.not_mem_nil, or_false] at hu); (first | (subst hu; exact reRun_mk rfl (by first | (go_simp; with_reducible rfl) | (go_simp; done)) (holds_at rfl)) | ((repeat' (first | (rcases hu with rfl | hu) | (subst hu))) <;> exact reRun_mk rfl (by first | (go_simp; with_reducible rfl) | (go_simp; done)) (holds_at rfl)))) ?_; clear hK K; try simp only [Act.put, List.setIfInBounds_toArray, List.set_cons_zero, List.set_cons_succ])
          refine canW rfl [2, 6] rfl (fun K hK => ?_)
          go_simp
          go_at_call 32
          refine (big8_any wa _ H8 (HBH.out.kept hcwwa) (by rw [HHL.out]; omega)).mono ?_
          rintro e x ⟨rfl, rfl⟩
          (refine hK _ _ (fun u hu => by (simp only [List.mem_cons, List.not_mem_nil, or_false] at hu); (first | (subst hu; exact reRun_mk rfl (by first | (go_simp; with_reducible rfl) | (go_simp; done)) (holds_at rfl)) | ((repeat' (first | (rcases hu with rfl | hu) | (subst hu))) <;> exact reRun_mk rfl (by first | (go_simp; with_reducible rfl) | (go_simp; done)) (holds_at rfl)))) ?_; clear hK K; try simp only [Act.put, List.setIfInBounds_toArray, List.set_cons_zero, List.set_cons_succ])
          refine canW rfl [2, 6] rfl (fun K hK => ?_)
          go_simp
          go_at_call 19
          refine (copy_by (HBD.out.kept hcwwa) (by have := HDL.out; omega)).mono ?_
          rintro e wb ⟨vx, rfl, hbx⟩
          have hcq := hbx.2.1
          have hcwa : Chg w wb nob := hcwwa.trans hbx.2.1 (fun _ _ h => h)
          have HBX := Lib.hid (hbx.newer hcwwa)
          replace hz := hz.trans hbx.2.1 (fun _ _ h => h)
          obtain ⟨ax, cx, rfl, _⟩ := hbx.1.form
          clear c0wa c1wa hbx
          have c0wb := hcwa.cell C0.out id
          have c1wb := hcwa.cell C1.out id
          (refine hK _ _ (fun u hu => by (simp only [List.mem_cons, List.not_mem_nil, or_false] at hu); (first | (subst hu; exact reRun_mk rfl (by first | (go_simp; with_reducible rfl) | (go_simp; done)) (holds_at rfl)) | ((repeat' (first | (rcases hu with rfl | hu) | (subst hu))) <;> exact reRun_mk rfl (by first | (go_simp; with_reducible rfl) | (go_simp; done)) (holds_at rfl)))) ?_; clear hK K; try simp only [Act.put, List.setIfInBounds_toArray, List.set_cons_zero, List.set_cons_succ])
          have HBX2 := HBX
          have HGwb := Lib.hid (HGwa.out.kept hcq id)
          (repeat (first | (apply can0; (· rfl); (· rfl); (· (intro w'; first | (go_simp; with_reducible rfl) | (go_simp; done))); simp only [Act.put, List.setIfInBounds_toArray, List.set_cons_zero, List.set_cons_succ]) | (apply can1; (· rfl); (· rfl); (· (first | (go_simp; with_reducible rfl) | (go_simp; done))); simp only [Act.put, List.setIfInBounds_toArray, List.set_cons_zero, List.set_cons_succ]) | (apply canN; (· rfl); (· rfl); simp only [Act.put, List.setIfInBounds_toArray, List.set_cons_zero, List.set_cons_succ]) | (apply canN1; (· rfl); (· rfl); simp only [Act.put, List.setIfInBounds_toArray, List.set_cons_zero, List.set_cons_succ]) | (apply can0; (· rfl); (· (go_simp; done)); (· (intro w'; first | (go_simp; with_reducible rfl) | (go_simp; done))); simp only [Act.put, List.setIfInBounds_toArray, List.set_cons_zero, List.set_cons_succ]) | (apply can1; (· rfl); (· (go_simp; done)); (· (first | (go_simp; with_reducible rfl) | (go_simp; done))); simp only [Act.put, List.setIfInBounds_toArray, List.set_cons_zero, List.set_cons_succ]) | (apply canN; (· rfl); (· (go_simp; done)); simp only [Act.put, List.setIfInBounds_toArray, List.set_cons_zero, List.set_cons_succ]) | (apply canN1; (· rfl); (· (go_simp; done)); simp only [Act.put, List.setIfInBounds_toArray, List.set_cons_zero, List.set_cons_succ])))
          have q0 := HGwb.out.cell 0
          have q1 := HGwb.out.cell 1
          have q2 := HGwb.out.cell 2
          have q3 := HGwb.out.cell 3
          simp only [List.getElem?_toArray, List.getElem?_cons_zero, List.getElem?_cons_succ] at q0 q1 q2 q3
          have r0 := HGwb.out.free 0
          have r1 := HGwb.out.free 1
          have r2 := HGwb.out.free 2
          have r3 := HGwb.out.free 3
          refine canW rfl [] rfl (fun K hK => ?_)
          go_simp
          (refine hK _ _ (fun u hu => by cases hu) ?_; clear hK K; try simp only [Act.put, List.setIfInBounds_toArray, List.set_cons_zero, List.set_cons_succ])
          refine canE ?_
          go_wp2
          go_meet
          have hgn : wd.heap.size ≠ w.heap.size := by have h1 := HZ2.out.lt; omega
          have hgl : w.heap.size ≤ wd.heap.size := by have h1 := HZ2.out.lt; omega
          exact ⟨_, _, _, rfl, hgn, hgl, Lib.hid (st4 HGwb.out rfl), Lib.hid ((HZ2.out.kept hz id).kept cr4 (Ne.symm hgn)), Lib.hid ⟨HBX2.out.1.kept cr4 (fun k hk e => HBX2.out.1.ne HGwb.out (by decide) (e ▸ hk)), ch4 HBX2.out.2.1 hgl, HBX2.out.2.2⟩⟩
      case rest =>
        obtain ⟨g, ax, cx, rfl, hgr, hgw, HG, HZ, HBX⟩ := hcut
        have q0 := HG.out.cell 0
        have q1 := HG.out.cell 1
        have q2 := HG.out.cell 2
        have q3 := HG.out.cell 3
        simp only [List.getElem?_toArray, List.getElem?_cons_zero, List.getElem?_cons_succ] at q0 q1 q2 q3
        go_wp2_with fail
        go_at_call 27
        refine (rmay_any wc ⟨d0, d1, numB H8, D⟩ (.slice ax D.length cx) (By.ofBx HBX.out HBD.out.byte)).mono ?_
        rintro e w5 ⟨rfl, hc5⟩
        have HG5 := Lib.hid (HG.out.kept hc5 id)
        have HZ5 := Lib.hid (HZ.out.kept hc5 id)
        have HB5 := Lib.hid (HBX.out.keptC hc5)
        clear hc5 HG HZ HBX q0 q1 q2 q3
        have q0 := HG5.out.cell 0
        have q1 := HG5.out.cell 1
        have q2 := HG5.out.cell 2
        have q3 := HG5.out.cell 3
        have z0 := HZ5.out.cell 0
        have z1 := HZ5.out.cell 1
        have z2 := HZ5.out.cell 2
        have z3 := HZ5.out.cell 3
        simp only [List.getElem?_toArray, List.getElem?_cons_zero, List.getElem?_cons_succ] at q0 q1 q2 q3 z0 z1 z2 z3
        have f0 := HZ5.out.free 0
        have f1 := HZ5.out.free 1
        have f2 := HZ5.out.free 2
        have f3 := HZ5.out.free 3
        by_cases hmy : Pk.May ⟨d0, d1, numB H8, D⟩
        · have HRR : Hid (R = (⟨d0, d1, numB H8, D⟩, 0)) := Lib.hid (by rw [HOM.out, if_pos hmy])
          rw [decide_eq_true hmy]
          go_wp2
          obtain ⟨wz, hwz⟩ : ∃ W, ((((World.setCell w5 ⟨w.heap.size, 0, none⟩ (.int .i64 d0)).setCell ⟨w.heap.size, 1, none⟩ (.int .i64 d1)).setCell ⟨w.heap.size, 2, none⟩ (.int .u64 (numB H8))).setCell ⟨w.heap.size, 3, none⟩ (.slice ax D.length cx)) = W := ⟨_, rfl⟩
          have hz : Blk wz w.heap.size 56 #[.int .i64 d0, .int .i64 d1, .int .u64 (numB H8), .slice ax D.length cx] := by rw [← hwz]; exact st4 HZ5.out rfl
          have HBZ : Hid (Bx w wz (.slice ax D.length cx) D) := Lib.hid (by
            rw [← hwz]
            exact ⟨HB5.out.1.kept cr4 (fun k hk e => HB5.out.1.ne HZ5.out (by decide) (e ▸ hk)), ch4 HB5.out.2.1 (Nat.le_refl _), HB5.out.2.2⟩)
          rw [hwz]
          clear z0 z1 z2 z3 hwz
          have z0 := hz.cell 0
          have z1 := hz.cell 1
          have z2 := hz.cell 2
          have z3 := hz.cell 3
          simp only [List.getElem?_toArray, List.getElem?_cons_zero, List.getElem?_cons_succ] at z0 z1 z2 z3
          refine bodyPost_ret (v := .tuple #[pkV ⟨d0, d1, numB H8, D⟩ (.slice ax D.length cx), .int .i64 0]) (by simp [results, Tryd.results24, go_sem, z0, z1, z2, z3, pkV]) rfl ?_
          rw [HRR.out]
          exact ⟨_, rfl, HBZ.out⟩
        · have HRR : Hid (R = (Pk.z, 2)) := Lib.hid (by rw [HOM.out, if_neg hmy])
          rw [decide_eq_false hmy]
          have HW5 : Hid (Chg w w5 nob) := Lib.hid HB5.out.2.1
          go_wp2
          obtain ⟨wz, hwz⟩ : ∃ W, ((((World.setCell w5 ⟨w.heap.size, 0, none⟩ (.int .i64 0)).setCell ⟨w.heap.size, 1, none⟩ (.int .i64 0)).setCell ⟨w.heap.size, 2, none⟩ (.int .u64 0)).setCell ⟨w.heap.size, 3, none⟩ (.slice none 0 0)) = W := ⟨_, rfl⟩
          have hz : Blk wz w.heap.size 56 #[.int .i64 0, .int .i64 0, .int .u64 0, .slice none 0 0] := by rw [← hwz]; exact st4 HZ5.out rfl
          have HCZ : Hid (Chg w wz nob) := Lib.hid (by rw [← hwz]; exact ch4 HW5.out (Nat.le_refl _))
          rw [hwz]
          clear z0 z1 z2 z3 hwz
          have z0 := hz.cell 0
          have z1 := hz.cell 1
          have z2 := hz.cell 2
          have z3 := hz.cell 3
          simp only [List.getElem?_toArray, List.getElem?_cons_zero, List.getElem?_cons_succ] at z0 z1 z2 z3
          refine bodyPost_ret (v := .tuple #[pkV Pk.z (.slice none 0 0), .int .i64 2]) (by simp [results, Tryd.results24, go_sem, z0, z1, z2, z3, pkV, Pk.z]) rfl ?_
          rw [HRR.out]
          exact ⟨_, rfl, (Bx.nil _).newer HCZ.out⟩
end Go.Proofs.YtcgdmidjejmjhaaDoor
