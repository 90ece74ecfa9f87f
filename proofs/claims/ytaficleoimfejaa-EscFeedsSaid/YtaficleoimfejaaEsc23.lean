/-
  Chapter 8, the document's answer: control, the signs of the params.
-/
import Derived.Test.YtaficleoimfejaaEsc22
namespace Go.Proofs.Ytaficleoimfejaa
open Go.RowKit
set_option linter.unusedVariables false
set_option linter.unusedSimpArgs false
attribute [local go_sem ↓] run_min_two run_max_two



set_option maxRecDepth 100000 in
set_option maxHeartbeats 4000000 in
theorem refcontrol_b {w : World} {x : Nat} {s : RS} {F : Nat → Prop} (h : RR w x s F) (hl : s.params.length ≤ 1000000) (hp : s.params ≠ []) (hrg : ∀ x ∈ s.params, -1 ≤ x ∧ x ≤ 9999) (r : Int) (h48 : 48 ≤ r) (h57 : r ≤ 57) :
    Calls Try.prog 30 #[.pointer (some ⟨x, 0, none⟩), .int .i32 r] w fun e w' => ∃ v, e = .returned v ∧ RO x (refControl s r).1 (refControl s r).2 F w w' v := by
  have H := Lib.hid h
  have hll := hl
  clear h
  have h' := H.out
  obtain ⟨vp, vt, hb, i1, i2, i6⟩ := h'
  obtain ⟨ao, cap, rfl, hcap, hmax, hnone, hsome⟩ := i1.form
  have hp1 : w.cell? ⟨x, 1, none⟩ = some (.slice ao s.params.length cap) := by rw [hb.cell]; rfl
  have hk0 : IntKind.i64.wrap ((s.params.length : Int) - 1) = (s.params.length : Int) - 1 := wraps_i64 _ (by omega) (by omega)
  clear hb i1 i2 i6 hnone hsome hcap hmax hl
  have q0 : ¬ r < 32 := by omega
  have q1 : ¬ r ≤ 47 := by omega
  rw [show refControl s r = (refDigit { s with sp := s.sp || (s.inter != 0) } r, []) by unfold refControl; rw [if_neg q0, if_neg q1, if_pos h57]]
  obtain ⟨nc0, nc2, nc3, nc4, nc5, nf0, nf2, nf3, nf4, nf5⟩ := H.out.nums
  have HPN := Lib.hid hp
  have HRG := Lib.hid hrg
  clear hp hrg
  go_enter Try.func30, Try.ntmps30
  go_upto_region 9 with (fail)
  go_cut [] (fun wx => wx = w.setCell ⟨x, 3, none⟩ (.bool (s.sp || (s.inter != 0))))
  case first =>
    obtain ⟨st, params, any, sp, priv, inter, text⟩ := s
    cases sp with
    | true =>
      go_wp2
      go_meet
      rfl
    | false =>
      by_cases h0 : inter = 0
      · subst h0
        go_wp2
        go_meet
        rfl
      · have e0 : (inter != 0) = true := by simpa using h0
        clear h0
        go_wp2
        go_meet
        simp [e0]
  case rest =>
  obtain rfl := hcut
  go_upto_region 11 with (fail)
  have hU2 : RU x { s with sp := s.sp || (s.inter != 0), any := true } F w ((w.setCell ⟨x, 3, none⟩ (.bool (s.sp || (s.inter != 0)))).setCell ⟨x, 2, none⟩ (.bool true)) := H.out.num _ rfl rfl (rchg2 _ _ _ _ _ _) (fun vp vt hb => (hb.set 3 _).set 2 _)
  obtain ⟨wb, hwb⟩ : ∃ wb, (w.setCell ⟨x, 3, none⟩ (.bool (s.sp || (s.inter != 0)))).setCell ⟨x, 2, none⟩ (.bool true) = wb := ⟨_, rfl⟩
  rw [hwb] at hU2 ⊢
  obtain ⟨hc2, F2, ⟨vp2, vt2, hb, h1, h2, h6⟩, hF2⟩ := hU2
  have HS : Hid (∀ w3 s2, RU x s2 F2 wb w3 → RU x s2 F w w3) := Lib.hid (fun w3 s2 h => RU.step hc2 hF2 h)
  obtain ⟨j, hj⟩ : ∃ j, s.params.length = j + 1 := by cases hs : s.params with | nil => exact absurd hs HPN.out | cons a l => exact ⟨l.length, by simp⟩
  obtain ⟨ao2, cap2, rfl, hcap2, hmax2, hnone2, hsome2⟩ := h1.form
  simp only at hb h1 h2 hcap2 hnone2
  cases ao2 with
  | none => have := (hnone2 rfl).1; omega
  | some a =>
    obtain ⟨g, rfl⟩ := hsome2 a rfl
    have hgp : ¬ g = x := fun e => h1.ne hb (by decide) (by rw [← e]; rfl)
    have hcell : wb.cell? ⟨g, j, none⟩ = some (.int .i64 (s.params.getD j 0)) := by
      rw [h1.cellAt j (by omega)]
      simp [intI, List.getD, show j < s.params.length by omega]
    have hfz := h1.frozenAt j
    have hv := HRG.out (s.params.getD j 0) (by rw [List.getD_eq_getElem?_getD, List.getElem?_eq_getElem (by omega)]; simp)
    have hS : refDigit { s with sp := s.sp || (s.inter != 0) } r = { s with sp := s.sp || (s.inter != 0), any := true, params := s.params.set j (mnI (10 * mxI (s.params.getD j 0) 0 + (r - 48)) 9999) } := by unfold refDigit; simp only; rw [hj, Nat.add_sub_cancel]
    have hmx : mxI (s.params.getD j 0) 0 ≤ 9999 ∧ 0 ≤ mxI (s.params.getD j 0) 0 := by unfold mxI; split <;> omega
    generalize s.params.getD j 0 = v0 at *
    have hw1 : IntKind.i64.wrap (10 * mxI v0 0) = 10 * mxI v0 0 := wraps_i64 _ (by omega) (by omega)
    have hw2 : IntKind.i64.wrap (10 * mxI v0 0 + (r - 48)) = 10 * mxI v0 0 + (r - 48) := wraps_i64 _ (by omega) (by omega)
    have hw3 : IntKind.i32.wrap (r - 48) = r - 48 := wraps_i32 _ (by omega) (by omega)
    have hw4 : IntKind.i64.wrap (r - 48) = r - 48 := wraps_i64 _ (by omega) (by omega)
    have hw5 : (s.params.length : Int) - 1 = (j : Int) := by omega
    have hj0 : (0 : Int) ≤ (j : Int) := by omega
    have hj1 : (j : Int) < (s.params.length : Int) := by omega
    have hx1 : wb.cell? ⟨x, 1, none⟩ = some (.slice (some ⟨g, 0, none⟩) s.params.length cap2) := by rw [hb.cell]; rfl
    have HB := Lib.hid hb
    have H1 := Lib.hid h1
    have H2 := Lib.hid h2
    have H6 := Lib.hid h6
    have HGP := Lib.hid hgp
    have HSS := Lib.hid hS
    clear hb h1 h2 h6 hgp hS hc2 hF2 hwb hnone2 hsome2 hj hp1 nc0 nc2 nc3 nc4 nc5 nf0 nf2 nf3 nf4 nf5 hk0
    rw [hw5]
    refine wp_one [3, 8, 11] [16, 20] [(16, [3, 8, 11])] [0, 1, 2, 3, 4, 5, 6, 7, 8, 9, 10, 11, 12, 13, 14, 15, 16, 17, 18, 19, 20] rfl (by kernel_rfl) (fun _ _ _ _ _ h => h) ?_; simp only [List.map_cons, List.map_nil, List.getElem?_toArray, List.getElem?_cons_zero, List.getElem?_cons_succ]
    (repeat (first | (apply can0; (· rfl); (· rfl); (· (intro w'; first | (go_simp; with_reducible rfl) | (go_simp; done))); simp only [Act.put, List.setIfInBounds_toArray, List.set_cons_zero, List.set_cons_succ]) | (apply can1; (· rfl); (· rfl); (· (first | (go_simp; with_reducible rfl) | (go_simp; done))); simp only [Act.put, List.setIfInBounds_toArray, List.set_cons_zero, List.set_cons_succ]) | (apply canN; (· rfl); (· rfl); simp only [Act.put, List.setIfInBounds_toArray, List.set_cons_zero, List.set_cons_succ]) | (apply canN1; (· rfl); (· rfl); simp only [Act.put, List.setIfInBounds_toArray, List.set_cons_zero, List.set_cons_succ]) | (apply can0; (· rfl); (· (go_simp; done)); (· (intro w'; first | (go_simp; with_reducible rfl) | (go_simp; done))); simp only [Act.put, List.setIfInBounds_toArray, List.set_cons_zero, List.set_cons_succ]) | (apply can1; (· rfl); (· (go_simp; done)); (· (first | (go_simp; with_reducible rfl) | (go_simp; done))); simp only [Act.put, List.setIfInBounds_toArray, List.set_cons_zero, List.set_cons_succ]) | (apply canN; (· rfl); (· (go_simp; done)); simp only [Act.put, List.setIfInBounds_toArray, List.set_cons_zero, List.set_cons_succ]) | (apply canN1; (· rfl); (· (go_simp; done)); simp only [Act.put, List.setIfInBounds_toArray, List.set_cons_zero, List.set_cons_succ])))
    refine canW rfl [3, 8, 11] rfl (fun K hK => ?_)
    go_simp
    (refine hK _ _ (fun u hu => by simp only [List.mem_cons, List.not_mem_nil, or_false] at hu; (first | (subst hu; exact reRun_mk rfl (by first | (go_simp; with_reducible rfl) | (go_simp; done)) (holds_at rfl)) | (rcases hu with rfl | rfl <;> exact reRun_mk rfl (by first | (go_simp; with_reducible rfl) | (go_simp; done)) (holds_at rfl)) | (rcases hu with rfl | rfl | rfl <;> exact reRun_mk rfl (by first | (go_simp; with_reducible rfl) | (go_simp; done)) (holds_at rfl)))) ?_; clear hK K; try simp only [Act.put, List.setIfInBounds_toArray, List.set_cons_zero, List.set_cons_succ])
    (repeat (first | (apply can0; (· rfl); (· rfl); (· (intro w'; first | (go_simp; with_reducible rfl) | (go_simp; done))); simp only [Act.put, List.setIfInBounds_toArray, List.set_cons_zero, List.set_cons_succ]) | (apply can1; (· rfl); (· rfl); (· (first | (go_simp; with_reducible rfl) | (go_simp; done))); simp only [Act.put, List.setIfInBounds_toArray, List.set_cons_zero, List.set_cons_succ]) | (apply canN; (· rfl); (· rfl); simp only [Act.put, List.setIfInBounds_toArray, List.set_cons_zero, List.set_cons_succ]) | (apply canN1; (· rfl); (· rfl); simp only [Act.put, List.setIfInBounds_toArray, List.set_cons_zero, List.set_cons_succ]) | (apply can0; (· rfl); (· (go_simp; done)); (· (intro w'; first | (go_simp; with_reducible rfl) | (go_simp; done))); simp only [Act.put, List.setIfInBounds_toArray, List.set_cons_zero, List.set_cons_succ]) | (apply can1; (· rfl); (· (go_simp; done)); (· (first | (go_simp; with_reducible rfl) | (go_simp; done))); simp only [Act.put, List.setIfInBounds_toArray, List.set_cons_zero, List.set_cons_succ]) | (apply canN; (· rfl); (· (go_simp; done)); simp only [Act.put, List.setIfInBounds_toArray, List.set_cons_zero, List.set_cons_succ]) | (apply canN1; (· rfl); (· (go_simp; done)); simp only [Act.put, List.setIfInBounds_toArray, List.set_cons_zero, List.set_cons_succ])))
    refine canW rfl [] rfl (fun K hK => ?_)
    go_simp
    (refine hK _ _ (fun u hu => by cases hu) ?_; clear hK K; try simp only [Act.put, List.setIfInBounds_toArray, List.set_cons_zero, List.set_cons_succ])
    refine canE ?_
    obtain ⟨wc, hwc⟩ : ∃ wc, (wb.setCell ⟨g, j, none⟩ (.int .i64 (mnI (10 * mxI v0 0 + (r - 48)) 9999))).drew = wc := ⟨_, rfl⟩
    rw [hwc]
    have hbb : Blk wc x 29 (rcs s.st (.slice (some ⟨g, 0, none⟩) s.params.length cap2) true (s.sp || (s.inter != 0)) s.priv s.inter vt2) := by
      rw [← hwc]; exact Blk.other (w := wb) HB.out (p := ⟨g, j, none⟩) (fun e => HGP.out e.symm) _
    have h1b : Own wc 3 1 (.slice (some ⟨g, 0, none⟩) s.params.length cap2) s.params.length (intI (s.params.set j (mnI (10 * mxI v0 0 + (r - 48)) 9999))) := by
      rw [← hwc]
      have h := Own.kept ((H1.out.stored j (.int .i64 (mnI (10 * mxI v0 0 + (r - 48)) 9999))).1) ((Chg.refl _ nob).drew) (fun _ _ => id)
      simpa [intI, List.map_set] using h
    have hcb : Chg wb wc (fun y => y = x ∨ blkOf (.slice (some ⟨g, 0, none⟩) s.params.length cap2) y ∨ blkOf vt2 y) := by
      rw [← hwc]; exact (Chg.setCell (p := ⟨g, j, none⟩) (Chg.refl wb _) (.inl (.inr (.inl rfl))) _).drew
    have h2b : Own wc 21 1 vt2 s.text.length (runesV s.text) := by
      rw [← hwc]; exact Own.kept (Own.setOther (p := ⟨g, j, none⟩) H2.out (fun h => H2.out.apart H1.out (by decide) h rfl) _) ((Chg.refl _ nob).drew) (fun _ _ => id)
    have HBB := Lib.hid hbb
    have H1B := Lib.hid h1b
    have H2B := Lib.hid h2b
    have HCB := Lib.hid hcb
    clear hbb h1b hcb h2b hwc hcell hfz hx1
    go_wp2
    go_ret
    refine ⟨_, rfl, RO.nil (HS.out _ _ ?_)⟩
    show RU x (refDigit { s with sp := s.sp || (s.inter != 0) } r) F2 wb wc
    rw [HSS.out]
    refine RR.rows (s := { s with sp := s.sp || (s.inter != 0), any := true }) HB.out H1.out H2.out H6.out _ (.slice (some ⟨g, 0, none⟩) s.params.length cap2) vt2 HBB.out ?_ H2B.out HCB.out (fun y hy => .inl hy) (fun y hy => .inl hy)
    show Own _ _ _ _ (s.params.set j _).length _
    rw [List.length_set]
    exact H1B.out

set_option maxRecDepth 100000 in
set_option maxHeartbeats 4000000 in
theorem refcontrol_c {w : World} {x : Nat} {s : RS} {F : Nat → Prop} (h : RR w x s F) (hl : s.params.length ≤ 1000000) (r : Int) (h48 : 58 ≤ r) (h57 : r ≤ 59) :
    Calls Try.prog 30 #[.pointer (some ⟨x, 0, none⟩), .int .i32 r] w fun e w' => ∃ v, e = .returned v ∧ RO x (refControl s r).1 (refControl s r).2 F w w' v := by
  have H := Lib.hid h
  have hll := hl
  clear h
  have h' := H.out
  obtain ⟨vp, vt, hb, i1, i2, i6⟩ := h'
  obtain ⟨ao, cap, rfl, hcap, hmax, hnone, hsome⟩ := i1.form
  have hp1 : w.cell? ⟨x, 1, none⟩ = some (.slice ao s.params.length cap) := by rw [hb.cell]; rfl
  have hk0 : IntKind.i64.wrap ((s.params.length : Int) - 1) = (s.params.length : Int) - 1 := wraps_i64 _ (by omega) (by omega)
  clear hb i1 i2 i6 hnone hsome hcap hmax hl
  rw [show refControl s r = ({ s with sp := s.sp || (s.inter != 0), any := true, params := s.params ++ [-1] }, []) by unfold refControl; rw [if_neg (by omega), if_neg (by omega), if_neg (by omega), if_pos h57]]
  obtain ⟨nc0, nc2, nc3, nc4, nc5, nf0, nf2, nf3, nf4, nf5⟩ := H.out.nums
  rcases (show r = 59 ∨ r = 58 by omega) with rfl | rfl
  all_goals
    clear h48 h57
    go_enter Try.func30, Try.ntmps30
    go_upto_region 13 with (fail)
    go_cut [] (fun wx => wx = w.setCell ⟨x, 3, none⟩ (.bool (s.sp || (s.inter != 0))))
    case first =>
      obtain ⟨st, params, any, sp, priv, inter, text⟩ := s
      cases sp with
      | true =>
        go_wp2
        go_meet
        rfl
      | false =>
        by_cases h0 : inter = 0
        · subst h0
          go_wp2
          go_meet
          rfl
        · have e0 : (inter != 0) = true := by simpa using h0
          clear h0
          go_wp2
          go_meet
          simp [e0]
    case rest =>
    obtain rfl := hcut
    go_upto_region 15 with (fail)
    have hU2 : RU x { s with sp := s.sp || (s.inter != 0), any := true } F w ((w.setCell ⟨x, 3, none⟩ (.bool (s.sp || (s.inter != 0)))).setCell ⟨x, 2, none⟩ (.bool true)) := H.out.num _ rfl rfl (rchg2 _ _ _ _ _ _) (fun vp vt hb => (hb.set 3 _).set 2 _)
    obtain ⟨wb, hwb⟩ : ∃ wb, (w.setCell ⟨x, 3, none⟩ (.bool (s.sp || (s.inter != 0)))).setCell ⟨x, 2, none⟩ (.bool true) = wb := ⟨_, rfl⟩
    rw [hwb] at hU2 ⊢
    obtain ⟨hc2, F2, ⟨vp2, vt2, hb, h1, h2, h6⟩, hF2⟩ := hU2
    have HS : Hid (∀ w3 s2, RU x s2 F2 wb w3 → RU x s2 F w w3) := Lib.hid (fun w3 s2 h => RU.step hc2 hF2 h)
    obtain ⟨ao2, cap2, rfl, hcap2, hmax2, hnone2, hsome2⟩ := h1.form
    simp only at hb h1 h2 hcap2 hnone2
    have hx1 : wb.cell? ⟨x, 1, none⟩ = some (.slice ao2 s.params.length cap2) := by rw [hb.cell]; rfl
    have hne := h1.ne hb (by decide)
    have HB := Lib.hid hb
    have H1 := Lib.hid h1
    have H2 := Lib.hid h2
    have H6 := Lib.hid h6
    have HNE := Lib.hid hne
    clear hb h1 h2 h6 hne hc2 hF2 hwb hnone2 hsome2 hp1 nc0 nc2 nc3 nc4 nc5 nf0 nf2 nf3 nf4 nf5 hk0
    go_wp2_with (at_builtin; refine wpList_push rfl (.tmp 115) (.tmp 116) 23 rfl 3 (.int .i64 0) 1 8 i_int u_ints rfl (by decide) (.slice ao2 s.params.length cap2) _ _ rfl H1.out 1 1 rfl rfl rfl (by unfold maxLen; omega) (by omega) ?_)
    intro v1 w1 ho1 (hch1 : Chg wb w1 (blkOf (.slice ao2 s.params.length cap2))) (hfo1 : ∀ k, blkOf v1 k → blkOf (.slice ao2 s.params.length cap2) k ∨ wb.heap.size ≤ k)
    have hb1 := HB.out.kept hch1 HNE.out
    obtain ⟨a1, cap1, rfl, _⟩ := ho1.form
    have hc1 : w1.cell? ⟨x, 1, none⟩ = some (.slice ao2 s.params.length cap2) := by rw [hb1.cell]; rfl
    have hf1 : w1.frozen? ⟨x, 1, none⟩ = false := hb1.free 1
    have HB1 := Lib.hid hb1
    have HO1 := Lib.hid ho1
    have HC1 := Lib.hid hch1
    have HF1 := Lib.hid hfo1
    clear hb1 ho1 hch1 hfo1 hx1
    go_wp2
    go_ret
    have hne1 := HO1.out.ne HB1.out (by decide)
    have hcc : Chg wb w1 (fun y => y = x ∨ blkOf (.slice ao2 s.params.length cap2) y ∨ blkOf vt2 y) := HC1.out.mono (fun _ _ h => .inr (.inl h))
    have h2' : Own w1 21 1 vt2 s.text.length (runesV s.text) := H2.out.kept HC1.out (fun k hk h => H2.out.apart H1.out (by decide) hk h)
    refine ⟨_, rfl, RO.nil (HS.out _ _ ?_)⟩
    refine RR.rows (s := { s with sp := s.sp || (s.inter != 0), any := true }) HB.out H1.out H2.out H6.out _ (.slice a1 (s.params.length + 1) cap1) vt2 (HB1.out.set 1 _) ?_ ?_ (hcc.setCell (p := ⟨x, 1, none⟩) (.inl (.inl rfl)) _) HF1.out (fun y hy => .inl hy)
    · have h := Own.setOther (p := ⟨x, 1, none⟩) HO1.out hne1 (.slice a1 (s.params.length + 1) cap1)
      show Own _ _ _ _ (s.params ++ [-1]).length _
      rw [List.length_append]
      simpa [intI] using h
    · exact Own.setOther (p := ⟨x, 1, none⟩) h2' (fun e => H2.out.ne HB.out (by decide) e) _
end Go.Proofs.Ytaficleoimfejaa
