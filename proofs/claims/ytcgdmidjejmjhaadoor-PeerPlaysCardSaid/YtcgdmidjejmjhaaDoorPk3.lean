
/-
  The document's Eight of any number, and Seal.
-/
import Derived.Test.YtcgdmidjejmjhaaDoorPk2
namespace Go.Proofs.YtcgdmidjejmjhaaDoor
open Go.RowKit
set_option linter.unusedVariables false
set_option linter.unusedSimpArgs false

theorem four_eight (n : Nat) : fourL (IntKind.u32.wrap ((n / 2 ^ 32 : Nat) : Int)) ++ fourL (IntKind.u32.wrap (n : Int)) = eightL n := by
  simp only [fourL, eightL, IntKind.wrap, IntKind.bits, IntKind.signed, List.cons_append, List.nil_append]
  simp only [List.cons.injEq, and_true]
  simp
  omega
theorem Blk.atN' {w : World} {n : Nat} {t : TypeId} {cs : Array Value} (h : n = w.heap.size) : Blk (w.alloc (.cells cs t)) n t cs := by subst h; exact Blk.new w t cs
set_option maxRecDepth 100000 in
set_option maxHeartbeats 1500000 in
theorem eight8_any (w : World) (n : Nat) (h : n < 18446744073709551616) : Calls Tryd.prog 28 #[.int .u64 n] w fun e w' => ∃ v, e = .returned v ∧ Bx w w' v (eightL n) := by
  have HF0 := four_eight n
  obtain ⟨q, hq⟩ : ∃ q, n / 2 ^ 32 = q := ⟨_, rfl⟩
  have hq' : (n : Int) / 4294967296 = (q : Int) := by omega
  rw [hq] at HF0
  obtain ⟨a, ha⟩ : ∃ a, IntKind.u32.wrap (q : Int) = a := ⟨_, rfl⟩
  obtain ⟨b, hb⟩ : ∃ a, IntKind.u32.wrap (n : Int) = a := ⟨_, rfl⟩
  rw [ha, hb] at HF0
  have HF := Lib.hid HF0
  clear hq HF0
  go_enter Tryd.func28, Tryd.ntmps28
  go_wp2_with fail
  go_at_call 34
  refine (four_any w a).mono ?_
  rintro e w1 ⟨v1, rfl, hb1⟩
  have HB1 := Lib.hid hb1
  clear hb1
  go_wp2_with fail
  go_at_call 34
  refine (four_any w1 b).mono ?_
  rintro e w2 ⟨v2, rfl, hb2⟩
  have HB2 := Lib.hid (HB1.out.keptC hb2.2.1)
  have HO2 := Lib.hid hb2.1.rd
  have HN2 := Lib.hid hb2.1.nilOk
  clear hb2
  go_wp2_with (at_builtin; refine wpList_bxr rfl (.tmp 6) (.tmp 9) rfl v1 (fourL a) rfl HB2.out v2 (fourL b) rfl HO2.out HN2.out (by show 4 + 4 ≤ _; omega) ?_)
  intro v3 w3 hb3 _
  have HB3 := Lib.hid hb3
  clear hb3
  go_wp2
  go_ret
  exact ⟨_, rfl, by rw [← HF.out]; exact HB3.out⟩
set_option maxRecDepth 100000 in
set_option maxHeartbeats 1500000 in
theorem rseal_any (w : World) (p : Pk) (K : List Int) (vk vb : Value) (hk : By w vk K) (hb : By w vb p.b) (hp : p.Ok) (hkl : K.length ≤ 1000000) (hbl : p.b.length ≤ 100000) :
    Calls Tryd.prog 21 #[vk, pkV p vb] w fun e w' => ∃ v, e = .returned (.tuple #[v, .int .i64 (sealE p)]) ∧ Bx w w' v (sealR K p) := by
  have HK := Lib.hid hk
  have HB := Lib.hid hb
  have HP := Lib.hid hp
  clear hk hb hp
  by_cases hm : p.May
  · have HE : Hid (sealE p = 0 ∧ sealR K p = sealL K p) := Lib.hid ⟨if_pos hm, if_pos hm⟩
    have HM := Lib.hid (decide_eq_true hm)
    rw [HE.out.1, HE.out.2]
    obtain ⟨m1, m2, m3, m4, m5, m6⟩ := hm
    obtain ⟨d, v, n, b⟩ := p
    simp only at m1 m2 m3 m4 m5 m6 hbl HB
    obtain ⟨N, rfl⟩ : ∃ N : Nat, n = (N : Int) := ⟨n.toNat, by omega⟩
    have hwd : IntKind.u8.wrap d = d := wraps_u8 d (by omega) (by omega)
    have hwv : IntKind.u8.wrap v = v := wraps_u8 v (by omega) (by omega)
    have HTX : Hid (textL ⟨d, v, (N : Int), b⟩ = d :: v :: (eightL N ++ b)) := Lib.hid (by simp [textL, headL, hwd, hwv])
    obtain ⟨X, hX⟩ : ∃ X, textL ⟨d, v, (N : Int), b⟩ = X := ⟨_, rfl⟩
    have HSL : Hid (sealL K ⟨d, v, (N : Int), b⟩ = X ++ tagL K X) := Lib.hid (by rw [← hX]; rfl)
    have HXL : Hid (X.length = 10 + b.length) := Lib.hid (by rw [← hX, textL_len])
    have HXB : Hid (∀ x ∈ X, 0 ≤ x ∧ x ≤ 255) := Lib.hid (by rw [← hX]; exact textL_byte _ HB.out.byte)
    have hdb : Hid (∀ x ∈ [d, v], 0 ≤ x ∧ x ≤ 255) := Lib.hid (by intro x hx; simp at hx; rcases hx with rfl | rfl <;> omega)
    obtain ⟨Ev, hEv⟩ : ∃ E, eightL N = E := ⟨_, rfl⟩
    have HEL : Hid (Ev.length = 8) := Lib.hid (by rw [← hEv]; rfl)
    have HEB : Hid (∀ x ∈ Ev, 0 ≤ x ∧ x ≤ 255) := Lib.hid (by rw [← hEv]; exact eightL_byte N)
    have H8 : Hid (∀ w, Calls Tryd.prog 28 #[.int .u64 N] w fun e w' => ∃ v, e = .returned v ∧ Bx w w' v Ev) := Lib.hid (fun w => by rw [← hEv]; exact eight8_any w N (by omega))
    rw [hX, hEv] at HTX
    rw [HSL.out]
    clear hX hEv HE HP
    simp only [pkV]
    go_enter Tryd.func21, Tryd.ntmps21
    go_wp2_with fail
    go_at_call 27
    refine (rmay_any _ ⟨d, v, (N : Int), b⟩ vb (HB.out.alloc _)).mono ?_
    rw [HM.out]
    rintro e w1 ⟨rfl, hc1⟩
    have HG : Hid (Blk w1 w.heap.size 56 #[.int .i64 d, .int .i64 v, .int .u64 N, vb]) := Lib.hid ((Blk.new w _ _).kept hc1 id)
    have HC : Hid (Chg w w1 nob) := Lib.hid (((Chg.refl w nob).alloc _).trans hc1 (fun _ _ h => h))
    clear hc1
    go_upto_region 3 with (fail)
    go_cut [6] (fun bv wx => Hid (Bx w1 wx bv ([d, v] ++ Ev)) ∧ Hid (Blk wx w.heap.size 56 #[.int .i64 d, .int .i64 v, .int .u64 N, vb]))
    case first =>
      refine wp_lanes [1, 4, 8] [6, 9, 10] [⟨[6, 9, 10], [(6, [8]), (9, [1, 4])], [0, 1, 2, 3, 4, 5, 7, 8, 6, 9, 10, 11]⟩, ⟨[9, 6, 10], [(9, [1, 4]), (6, [8])], [0, 1, 2, 3, 4, 5, 7, 8, 9, 6, 10, 11]⟩] rfl (by kernel_rfl) (fun _ _ _ _ _ h => h) ?_; simp only [wpAll, List.map_cons, List.map_nil, List.getElem?_toArray, List.getElem?_cons_zero, List.getElem?_cons_succ]; refine ⟨?_, ?_, trivial⟩
      all_goals (obtain ⟨wd, hwd'⟩ : ∃ W, World.drew w1 = W := ⟨_, rfl⟩)
      all_goals rw [hwd']
      all_goals (have hcd : Chg w1 wd nob := by rw [← hwd']; exact (Chg.refl w1 nob).drew)
      all_goals clear hwd'
      all_goals have HGwd : Hid (Blk wd w.heap.size 56 #[.int .i64 d, .int .i64 v, .int .u64 N, vb]) := Lib.hid (HG.out.kept hcd id)
      all_goals have g0wd := HGwd.out.cell 0
      all_goals have g1wd := HGwd.out.cell 1
      all_goals have g2wd := HGwd.out.cell 2
      all_goals have g3wd := HGwd.out.cell 3
      all_goals simp only [List.getElem?_toArray, List.getElem?_cons_zero, List.getElem?_cons_succ] at g0wd g1wd g2wd g3wd
      · (repeat (first | (apply can0; (· rfl); (· rfl); (· (intro w'; first | (go_simp; with_reducible rfl) | (go_simp; done))); simp only [Act.put, List.setIfInBounds_toArray, List.set_cons_zero, List.set_cons_succ]) | (apply can1; (· rfl); (· rfl); (· (first | (go_simp; with_reducible rfl) | (go_simp; done))); simp only [Act.put, List.setIfInBounds_toArray, List.set_cons_zero, List.set_cons_succ]) | (apply canN; (· rfl); (· rfl); simp only [Act.put, List.setIfInBounds_toArray, List.set_cons_zero, List.set_cons_succ]) | (apply canN1; (· rfl); (· rfl); simp only [Act.put, List.setIfInBounds_toArray, List.set_cons_zero, List.set_cons_succ]) | (apply can0; (· rfl); (· (go_simp; done)); (· (intro w'; first | (go_simp; with_reducible rfl) | (go_simp; done))); simp only [Act.put, List.setIfInBounds_toArray, List.set_cons_zero, List.set_cons_succ]) | (apply can1; (· rfl); (· (go_simp; done)); (· (first | (go_simp; with_reducible rfl) | (go_simp; done))); simp only [Act.put, List.setIfInBounds_toArray, List.set_cons_zero, List.set_cons_succ]) | (apply canN; (· rfl); (· (go_simp; done)); simp only [Act.put, List.setIfInBounds_toArray, List.set_cons_zero, List.set_cons_succ]) | (apply canN1; (· rfl); (· (go_simp; done)); simp only [Act.put, List.setIfInBounds_toArray, List.set_cons_zero, List.set_cons_succ])))
        refine canW rfl [8] rfl (fun K hK => ?_)
        go_simp
        obtain ⟨wa, hwa⟩ : ∃ W, World.alloc wd (.cells #[.int .u8 d, .int .u8 v] 5) = W := ⟨_, rfl⟩
        have hca : Chg w1 wa nob := by rw [← hwa]; exact hcd.alloc _
        have HO : Hid (Bx w1 wa (.slice (some ⟨wd.heap.size, 0, none⟩) 2 2) [d, v]) := Lib.hid ⟨by rw [← hwa]; exact Own.lit wd 5 (bytesV [d, v]).toArray (by show 2 ≤ 1000; decide), hca, fun k hk => by cases hk; exact hcd.size⟩
        rw [hwa]
        clear hwa g0wd g1wd g2wd g3wd HGwd
        have HGwa : Hid (Blk wa w.heap.size 56 #[.int .i64 d, .int .i64 v, .int .u64 N, vb]) := Lib.hid (HG.out.kept hca id)
        have g0wa := HGwa.out.cell 0
        have g1wa := HGwa.out.cell 1
        have g2wa := HGwa.out.cell 2
        have g3wa := HGwa.out.cell 3
        simp only [List.getElem?_toArray, List.getElem?_cons_zero, List.getElem?_cons_succ] at g0wa g1wa g2wa g3wa
        (refine hK _ _ (fun u hu => by (simp only [List.mem_cons, List.not_mem_nil, or_false] at hu); (first | (subst hu; exact reRun_mk rfl (by first | (go_simp; with_reducible rfl) | (go_simp; done)) (holds_at rfl)) | ((repeat' (first | (rcases hu with rfl | hu) | (subst hu))) <;> exact reRun_mk rfl (by first | (go_simp; with_reducible rfl) | (go_simp; done)) (holds_at rfl)))) ?_; clear hK K; try simp only [Act.put, List.setIfInBounds_toArray, List.set_cons_zero, List.set_cons_succ])
        refine canW rfl [1, 4] rfl (fun K hK => ?_)
        go_simp
        go_at_call 28
        refine (H8.out wa).mono ?_
        rintro e wb ⟨v8, rfl, hb8⟩
        have HO8 := Lib.hid (HO.out.keptC hb8.2.1)
        have HE8 := Lib.hid (By.ofBx hb8 HEB.out)
        clear g0wa g1wa g2wa g3wa
        have HGwb : Hid (Blk wb w.heap.size 56 #[.int .i64 d, .int .i64 v, .int .u64 N, vb]) := Lib.hid (HGwa.out.kept hb8.2.1 id)
        have g0wb := HGwb.out.cell 0
        have g1wb := HGwb.out.cell 1
        have g2wb := HGwb.out.cell 2
        have g3wb := HGwb.out.cell 3
        simp only [List.getElem?_toArray, List.getElem?_cons_zero, List.getElem?_cons_succ] at g0wb g1wb g2wb g3wb
        clear hb8
        (refine hK _ _ (fun u hu => by (simp only [List.mem_cons, List.not_mem_nil, or_false] at hu); (first | (subst hu; exact reRun_mk rfl (by first | (go_simp; with_reducible rfl) | (go_simp; done)) (holds_at rfl)) | ((repeat' (first | (rcases hu with rfl | hu) | (subst hu))) <;> exact reRun_mk rfl (by first | (go_simp; with_reducible rfl) | (go_simp; done)) (holds_at rfl)))) ?_; clear hK K; try simp only [Act.put, List.setIfInBounds_toArray, List.set_cons_zero, List.set_cons_succ])
        refine canW rfl [] rfl (fun K hK => ?_)
        refine step_by rfl (.tmp 16) (.tmp 19) rfl HO8.out HE8.out (by simp [HEL.out]) rfl rfl ?_
        intro v9 w9 hb9 hc9
        have HB9 := Lib.hid hb9
        have HG9 := Lib.hid (HGwb.out.kept hc9 (fun h => by have h1 := HO8.out.2.2 _ h; have h2 := HG.out.lt; omega))
        clear hb9 hc9
        (refine hK _ _ (fun u hu => by cases hu) ?_; clear hK K; try simp only [Act.put, List.setIfInBounds_toArray, List.set_cons_zero, List.set_cons_succ])
        (repeat (first | (apply can0; (· rfl); (· rfl); (· (intro w'; first | (go_simp; with_reducible rfl) | (go_simp; done))); simp only [Act.put, List.setIfInBounds_toArray, List.set_cons_zero, List.set_cons_succ]) | (apply can1; (· rfl); (· rfl); (· (first | (go_simp; with_reducible rfl) | (go_simp; done))); simp only [Act.put, List.setIfInBounds_toArray, List.set_cons_zero, List.set_cons_succ]) | (apply canN; (· rfl); (· rfl); simp only [Act.put, List.setIfInBounds_toArray, List.set_cons_zero, List.set_cons_succ]) | (apply canN1; (· rfl); (· rfl); simp only [Act.put, List.setIfInBounds_toArray, List.set_cons_zero, List.set_cons_succ]) | (apply can0; (· rfl); (· (go_simp; done)); (· (intro w'; first | (go_simp; with_reducible rfl) | (go_simp; done))); simp only [Act.put, List.setIfInBounds_toArray, List.set_cons_zero, List.set_cons_succ]) | (apply can1; (· rfl); (· (go_simp; done)); (· (first | (go_simp; with_reducible rfl) | (go_simp; done))); simp only [Act.put, List.setIfInBounds_toArray, List.set_cons_zero, List.set_cons_succ]) | (apply canN; (· rfl); (· (go_simp; done)); simp only [Act.put, List.setIfInBounds_toArray, List.set_cons_zero, List.set_cons_succ]) | (apply canN1; (· rfl); (· (go_simp; done)); simp only [Act.put, List.setIfInBounds_toArray, List.set_cons_zero, List.set_cons_succ])))
        refine canE ?_
        go_wp2
        go_meet
        exact ⟨HB9, HG9⟩
      · (repeat (first | (apply can0; (· rfl); (· rfl); (· (intro w'; first | (go_simp; with_reducible rfl) | (go_simp; done))); simp only [Act.put, List.setIfInBounds_toArray, List.set_cons_zero, List.set_cons_succ]) | (apply can1; (· rfl); (· rfl); (· (first | (go_simp; with_reducible rfl) | (go_simp; done))); simp only [Act.put, List.setIfInBounds_toArray, List.set_cons_zero, List.set_cons_succ]) | (apply canN; (· rfl); (· rfl); simp only [Act.put, List.setIfInBounds_toArray, List.set_cons_zero, List.set_cons_succ]) | (apply canN1; (· rfl); (· rfl); simp only [Act.put, List.setIfInBounds_toArray, List.set_cons_zero, List.set_cons_succ]) | (apply can0; (· rfl); (· (go_simp; done)); (· (intro w'; first | (go_simp; with_reducible rfl) | (go_simp; done))); simp only [Act.put, List.setIfInBounds_toArray, List.set_cons_zero, List.set_cons_succ]) | (apply can1; (· rfl); (· (go_simp; done)); (· (first | (go_simp; with_reducible rfl) | (go_simp; done))); simp only [Act.put, List.setIfInBounds_toArray, List.set_cons_zero, List.set_cons_succ]) | (apply canN; (· rfl); (· (go_simp; done)); simp only [Act.put, List.setIfInBounds_toArray, List.set_cons_zero, List.set_cons_succ]) | (apply canN1; (· rfl); (· (go_simp; done)); simp only [Act.put, List.setIfInBounds_toArray, List.set_cons_zero, List.set_cons_succ])))
        refine canW rfl [1, 4] rfl (fun K hK => ?_)
        go_simp
        go_at_call 28
        refine (H8.out wd).mono ?_
        rintro e wa ⟨v8, rfl, hb8⟩
        have hca : Chg w1 wa nob := hcd.trans hb8.2.1 (fun _ _ h => h)
        have HE8 := Lib.hid (By.ofBx hb8 HEB.out)
        clear g0wd g1wd g2wd g3wd HGwd hb8
        have HGwa : Hid (Blk wa w.heap.size 56 #[.int .i64 d, .int .i64 v, .int .u64 N, vb]) := Lib.hid (HG.out.kept hca id)
        have g0wa := HGwa.out.cell 0
        have g1wa := HGwa.out.cell 1
        have g2wa := HGwa.out.cell 2
        have g3wa := HGwa.out.cell 3
        simp only [List.getElem?_toArray, List.getElem?_cons_zero, List.getElem?_cons_succ] at g0wa g1wa g2wa g3wa
        (refine hK _ _ (fun u hu => by (simp only [List.mem_cons, List.not_mem_nil, or_false] at hu); (first | (subst hu; exact reRun_mk rfl (by first | (go_simp; with_reducible rfl) | (go_simp; done)) (holds_at rfl)) | ((repeat' (first | (rcases hu with rfl | hu) | (subst hu))) <;> exact reRun_mk rfl (by first | (go_simp; with_reducible rfl) | (go_simp; done)) (holds_at rfl)))) ?_; clear hK K; try simp only [Act.put, List.setIfInBounds_toArray, List.set_cons_zero, List.set_cons_succ])
        refine canW rfl [8] rfl (fun K hK => ?_)
        go_simp
        obtain ⟨wb, hwb⟩ : ∃ W, World.alloc wa (.cells #[.int .u8 d, .int .u8 v] 5) = W := ⟨_, rfl⟩
        have hcb : Chg w1 wb nob := by rw [← hwb]; exact hca.alloc _
        have HO8 : Hid (Bx w1 wb (.slice (some ⟨wa.heap.size, 0, none⟩) 2 2) [d, v]) := Lib.hid ⟨by rw [← hwb]; exact Own.lit wa 5 (bytesV [d, v]).toArray (by show 2 ≤ 1000; decide), hcb, fun k hk => by cases hk; exact hca.size⟩
        replace HE8 : Hid (By wb v8 Ev) := Lib.hid (by rw [← hwb]; exact HE8.out.alloc _)
        rw [hwb]
        clear hwb g0wa g1wa g2wa g3wa HGwa
        have HGwb : Hid (Blk wb w.heap.size 56 #[.int .i64 d, .int .i64 v, .int .u64 N, vb]) := Lib.hid (HG.out.kept hcb id)
        have g0wb := HGwb.out.cell 0
        have g1wb := HGwb.out.cell 1
        have g2wb := HGwb.out.cell 2
        have g3wb := HGwb.out.cell 3
        simp only [List.getElem?_toArray, List.getElem?_cons_zero, List.getElem?_cons_succ] at g0wb g1wb g2wb g3wb
        (refine hK _ _ (fun u hu => by (simp only [List.mem_cons, List.not_mem_nil, or_false] at hu); (first | (subst hu; exact reRun_mk rfl (by first | (go_simp; with_reducible rfl) | (go_simp; done)) (holds_at rfl)) | ((repeat' (first | (rcases hu with rfl | hu) | (subst hu))) <;> exact reRun_mk rfl (by first | (go_simp; with_reducible rfl) | (go_simp; done)) (holds_at rfl)))) ?_; clear hK K; try simp only [Act.put, List.setIfInBounds_toArray, List.set_cons_zero, List.set_cons_succ])
        refine canW rfl [] rfl (fun K hK => ?_)
        refine step_by rfl (.tmp 16) (.tmp 19) rfl HO8.out HE8.out (by simp [HEL.out]) rfl rfl ?_
        intro v9 w9 hb9 hc9
        have HB9 := Lib.hid hb9
        have HG9 := Lib.hid (HGwb.out.kept hc9 (fun h => by have h1 := HO8.out.2.2 _ h; have h2 := HG.out.lt; omega))
        clear hb9 hc9
        (refine hK _ _ (fun u hu => by cases hu) ?_; clear hK K; try simp only [Act.put, List.setIfInBounds_toArray, List.set_cons_zero, List.set_cons_succ])
        (repeat (first | (apply can0; (· rfl); (· rfl); (· (intro w'; first | (go_simp; with_reducible rfl) | (go_simp; done))); simp only [Act.put, List.setIfInBounds_toArray, List.set_cons_zero, List.set_cons_succ]) | (apply can1; (· rfl); (· rfl); (· (first | (go_simp; with_reducible rfl) | (go_simp; done))); simp only [Act.put, List.setIfInBounds_toArray, List.set_cons_zero, List.set_cons_succ]) | (apply canN; (· rfl); (· rfl); simp only [Act.put, List.setIfInBounds_toArray, List.set_cons_zero, List.set_cons_succ]) | (apply canN1; (· rfl); (· rfl); simp only [Act.put, List.setIfInBounds_toArray, List.set_cons_zero, List.set_cons_succ]) | (apply can0; (· rfl); (· (go_simp; done)); (· (intro w'; first | (go_simp; with_reducible rfl) | (go_simp; done))); simp only [Act.put, List.setIfInBounds_toArray, List.set_cons_zero, List.set_cons_succ]) | (apply can1; (· rfl); (· (go_simp; done)); (· (first | (go_simp; with_reducible rfl) | (go_simp; done))); simp only [Act.put, List.setIfInBounds_toArray, List.set_cons_zero, List.set_cons_succ]) | (apply canN; (· rfl); (· (go_simp; done)); simp only [Act.put, List.setIfInBounds_toArray, List.set_cons_zero, List.set_cons_succ]) | (apply canN1; (· rfl); (· (go_simp; done)); simp only [Act.put, List.setIfInBounds_toArray, List.set_cons_zero, List.set_cons_succ])))
        refine canE ?_
        go_wp2
        go_meet
        exact ⟨HB9, HG9⟩
    case rest =>
      obtain ⟨HB6, HG6⟩ := hcut
      have HC6 : Hid (Chg w wc nob) := Lib.hid (HC.out.trans HB6.out.2.1 (fun _ _ h => h))
      have g3 := HG6.out.cell 3
      simp only [List.getElem?_toArray, List.getElem?_cons_zero, List.getElem?_cons_succ] at g3
      go_wp2_with (at_builtin; refine wpList_by rfl (.tmp 21) (.tmp 23) rfl HB6.out (HB.out.kept HC6.out) (by simp [HEL.out]; omega) rfl rfl ?_)
      intro v3 w3 hb3 _
      have hb3 : Bx w1 w3 v3 X := by rw [HTX.out]; exact hb3
      have HB3 := Lib.hid hb3
      have HC3 : Hid (Chg w w3 nob) := Lib.hid (HC.out.trans hb3.2.1 (fun _ _ h => h))
      clear hb3 g3
      go_wp2_with fail
      go_at_call 29
      refine (rtag_by (HK.out.kept HC3.out) (By.ofBx HB3.out HXB.out) hkl (by rw [HXL.out]; omega)).mono ?_
      rintro e w4 ⟨v4, rfl, hb4, hc4⟩
      have HB4 := Lib.hid hb4
      have HB5 := Lib.hid (HB3.out.keptC hc4)
      clear hb4 hc4
      go_wp2_with (at_builtin; refine wpList_by rfl (.tmp 25) (.tmp 28) rfl HB5.out HB4.out (by rw [HXL.out, tagL_len]; omega) rfl rfl ?_)
      intro v6 w6 hb6 _
      have HB6 := Lib.hid hb6
      clear hb6
      go_wp2
      go_ret2
      exact ⟨_, rfl, HB6.out.newer HC.out⟩
  · have HE : Hid (sealE p = 1 ∧ sealR K p = []) := Lib.hid ⟨if_neg hm, if_neg hm⟩
    have HM := Lib.hid (decide_eq_false hm)
    rw [HE.out.1, HE.out.2]
    simp only [pkV]
    go_enter Tryd.func21, Tryd.ntmps21
    go_wp2_with fail
    go_at_call 27
    refine (rmay_any _ p vb (HB.out.alloc _)).mono ?_
    rw [HM.out]
    rintro e w1 ⟨rfl, hc1⟩
    have HC : Hid (Chg w w1 nob) := Lib.hid (((Chg.refl w nob).alloc _).trans hc1 (fun _ _ h => h))
    go_wp2
    go_ret2
    exact ⟨_, rfl, (Bx.nil w1).newer HC.out⟩
end Go.Proofs.YtcgdmidjejmjhaaDoor
