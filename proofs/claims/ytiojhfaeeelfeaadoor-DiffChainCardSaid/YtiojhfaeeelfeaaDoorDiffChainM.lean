/-
  DiffChain: from screen to screen, one behind the other, the last one is what was told.
-/
import Derived.Test.YtiojhfaeeelfeaaDoorMg34
import Derived.Test.YtiojhfaeeelfeaaDoorScrsM
namespace Go.Proofs.YtiojhfaeeelfeaaDoor
open Go.RowKit
set_option linter.unusedVariables false
set_option linter.unusedSimpArgs false

theorem z_may : Sc.z.may = false := by decide
theorem OpsA.of {w : World} {a : Option Addr} {c : Nat} {P : List Sc} (h : OpsA w a c P) (hp : 1 ≤ P.length) : ∃ g o, a = some ⟨g, o, none⟩ ∧ ∀ i, i < P.length → ∃ va, Rd w 5 va (P.getD i .z).l.length (cellsV (P.getD i .z).l) ∧ ∀ j, j < 7 → w.cell? ⟨g, o + i * 7 + j, none⟩ = [Value.int .i64 (P.getD i .z).r, .int .i64 (P.getD i .z).c, va, .int .i64 (P.getD i .z).y, .int .i64 (P.getD i .z).x, .bool (P.getD i .z).h, .string (P.getD i .z).t][j]? := by
  obtain ⟨g, o, va, rfl, _⟩ := h.2 0 hp
  refine ⟨g, o, rfl, fun i hi => ?_⟩
  obtain ⟨g', o', va', e, h1, h2⟩ := h.2 i hi
  cases e
  exact ⟨va', h1, h2⟩
set_option maxRecDepth 100000 in
set_option maxHeartbeats 4000000 in
theorem DiffChain_walk (a0 : Option Addr) (c0 : Nat) (P0 : List Sc) (w : World) (h0 : OpsA w a0 c0 P0) (ht : Tab w) :
    Calls Tryd.prog 7 #[.slice a0 P0.length c0] w fun e w' => e = .returned (.bool true) ∧ Chg w w' nob := by
  have HT := Lib.hid ht
  obtain ⟨P, hPP⟩ : ∃ P, P0 = P := ⟨_, rfl⟩
  subst hPP
  obtain ⟨n, hn⟩ : ∃ n, P0.length = n := ⟨_, rfl⟩
  have HN := Lib.hid hn
  have HP := Lib.hid h0
  rw [hn]
  clear h0 ht
  rename List Sc => P
  go_enter Tryd.func7, Tryd.ntmps7
  have HC : Hid (Chg w w nob) := Lib.hid (Chg.refl _ _)
  go_wp2_with fail
  go_at_call 23
  refine (dfirst_any w HT.out).mono ?_
  rintro e w1 ⟨rfl, hck⟩
  replace HC := Lib.hid hck
  clear hck
  by_cases hin : 1 ≤ n ∧ n ≤ 10
  · obtain ⟨n1, n2⟩ := hin
    have n1i : ¬ ((n : Int) < 1) := by omega
    have n2i : ¬ ((10 : Int) < (n : Int)) := by omega
    obtain ⟨g, o, rfl, hpi⟩ := HP.out.of (by omega)
    rw [hn] at hpi
    have HPI := Lib.hid hpi
    clear hpi hn HP
    go_wp2_with fail
    go_loopw [3] (fun iv wr => ∃ i : Nat, i ≤ n ∧ iv = .int .i64 i ∧ Hid (∀ j, j < i → (P.getD j .z).may = true) ∧ Hid (Chg w wr nob)) (fun iv _ => n - (intOf iv).toNat)
    case atStart => exact ⟨0, Nat.zero_le _, rfl, Lib.hid (fun j hj => absurd hj (Nat.not_lt_zero _)), HC⟩
    case round =>
      clear HC
      obtain ⟨i, hi, rfl, HM, HC⟩ := hrel
      by_cases hil : i < n
      · have hii : (i : Int) < (n : Int) := by omega
        have hi0 : (0 : Int) ≤ (i : Int) := by omega
        obtain ⟨sv, sr, sk⟩ := HPI.out (i) (by omega)
        obtain ⟨sa, sn, rfl, _⟩ := sr.form
        obtain ⟨s, se⟩ : ∃ s, P.getD (i) .z = s := ⟨_, rfl⟩
        rw [se] at sr sk
        have Hs := Lib.hid sr
        have Hse := Lib.hid se
        have s0 := HC.out.cell (sk 0 (by decide)) id
        have s1 := HC.out.cell (sk 1 (by decide)) id
        have s2 := HC.out.cell (sk 2 (by decide)) id
        have s3 := HC.out.cell (sk 3 (by decide)) id
        have s4 := HC.out.cell (sk 4 (by decide)) id
        have s5 := HC.out.cell (sk 5 (by decide)) id
        have s6 := HC.out.cell (sk 6 (by decide)) id
        simp only [List.getElem?_cons_zero, List.getElem?_cons_succ, Nat.add_zero, Nat.zero_mul] at s0 s1 s2 s3 s4 s5 s6
        clear sk se sr
        obtain ⟨f1, hf1⟩ : ∃ x, (decide (s.l.length ≤ 3000) && decide (s.t.size ≤ 3000)) = x := ⟨_, rfl⟩
        have HF1 := Lib.hid hf1
        obtain ⟨m1, hm1⟩ : ∃ x, s.may = x := ⟨_, rfl⟩
        have HM1 := Lib.hid hm1
        clear hf1 hm1
        rename World => wo
        go_wp2_with fail
        go_at_call 18
        refine (few_any wo s.r s.c s.y s.x s.h s.t _ s.l.length ⟨_, _, rfl⟩).mono ?_
        rw [HF1.out]
        rintro e w2 ⟨rfl, hck⟩
        replace s0 := hck.cell s0 id
        replace s1 := hck.cell s1 id
        replace s2 := hck.cell s2 id
        replace s3 := hck.cell s3 id
        replace s4 := hck.cell s4 id
        replace s5 := hck.cell s5 id
        replace s6 := hck.cell s6 id
        replace HC := Lib.hid (HC.out.trans hck (fun _ _ h => h))
        clear hck
        cases f1 with
        | false =>
          go_wp2_with fail
          go_at_call 23
          refine (dfirst_any w2 (HT.out.kept HC.out)).mono ?_
          rintro e x_ ⟨rfl, hck⟩
          replace HC := Lib.hid (HC.out.trans hck (fun _ _ h => h))
          clear hck
          go_wp2
          go_ret
          exact ⟨rfl, HC.out⟩
        | true =>
          obtain ⟨k1, k2⟩ := Bool.and_eq_true_iff.1 HF1.out
          simp only [decide_eq_true_eq] at k1 k2
          have HMY := Lib.hid (may_sc w2 s _ (Hs.out.kept HC.out (fun _ _ => id)) (by omega) (by omega) (HT.out.kept HC.out))
          rw [HM1.out] at HMY
          go_wp2_with fail
          go_at_call 20
          refine HMY.out.mono ?_
          rintro e w3 ⟨rfl, hck⟩
          replace HC := Lib.hid (HC.out.trans hck (fun _ _ h => h))
          clear hck HMY s0 s1 s2 s3 s4 s5 s6
          cases m1 with
          | false =>
            go_wp2_with fail
            go_at_call 23
            refine (dfirst_any w3 (HT.out.kept HC.out)).mono ?_
            rintro e x_ ⟨rfl, hck⟩
            replace HC := Lib.hid (HC.out.trans hck (fun _ _ h => h))
            clear hck
            go_wp2
            go_ret
            exact ⟨rfl, HC.out⟩
          | true =>
            have HM2 : Hid (∀ j, j < i + 1 → (P.getD j .z).may = true) := Lib.hid (fun j hj => by
              rcases (show j < i ∨ j = i by omega) with h | h
              · exact HM.out j h
              · rw [h, Hse.out]; exact HM1.out)
            go_wp2
            go_roundw
            case rel => exact ⟨i + 1, by omega, by go_num, HM2, HC⟩
            case measure => simp [intOf]; omega
      · obtain rfl : i = n := by omega
        rename World => wa
        have hn0 : 0 < i := by omega
        obtain ⟨sv, sr, sk⟩ := HPI.out (0) (by omega)
        obtain ⟨sa, sn, rfl, _⟩ := sr.form
        obtain ⟨s, se⟩ : ∃ s, P.getD (0) .z = s := ⟨_, rfl⟩
        rw [se] at sr sk
        have Hs := Lib.hid sr
        have Hse := Lib.hid se
        have s0 := HC.out.cell (sk 0 (by decide)) id
        have s1 := HC.out.cell (sk 1 (by decide)) id
        have s2 := HC.out.cell (sk 2 (by decide)) id
        have s3 := HC.out.cell (sk 3 (by decide)) id
        have s4 := HC.out.cell (sk 4 (by decide)) id
        have s5 := HC.out.cell (sk 5 (by decide)) id
        have s6 := HC.out.cell (sk 6 (by decide)) id
        simp only [List.getElem?_cons_zero, List.getElem?_cons_succ, Nat.add_zero, Nat.zero_mul] at s0 s1 s2 s3 s4 s5 s6
        clear sk se sr
        have hi1 : (1 : Int) ≤ (i : Int) := by omega
        go_upto_region 11 with (fail)
        obtain ⟨wb, hw⟩ : ∃ W, wa.alloc (.cells (scL s (.slice sa s.l.length sn)) 26) = W := ⟨_, rfl⟩
        have hck : Chg wa wb nob := by rw [← hw]; exact (Chg.refl wa nob).alloc _
        have HB : Hid (Blk wb wa.heap.size 26 (scL s (.slice sa s.l.length sn))) := Lib.hid (by rw [← hw]; exact Blk.new wa _ _)
        rw [hw]
        clear hw
        have HWS : Hid (w.heap.size ≤ wa.heap.size) := Lib.hid HC.out.size
        obtain ⟨ix, hix⟩ : ∃ k, wa.heap.size = k := ⟨_, rfl⟩
        rw [hix] at HB HWS ⊢
        clear hix
        replace HC := Lib.hid (HC.out.trans hck (fun _ _ h => h))
        clear hck s0 s1 s2 s3 s4 s5 s6
        have HS0 : Hid (Rd wb 5 (.slice sa s.l.length sn) s.l.length (cellsV s.l) ∧ ∀ k, blkOf (.slice sa s.l.length sn) k → k ≠ ix) := Lib.hid ⟨Hs.out.kept HC.out (fun _ _ => id), fun k hk e => by
          have hm : s.may = true := by rw [← Hse.out]; exact HM.out 0 hn0
          have h1 := (Sc.may_len hm).2.2
          have h2 := Hs.out.lt (fun h => by have := congrArg List.length h; rw [cellsV_len] at this; simp only [List.length_nil] at this; omega) hk
          have := HWS.out
          omega⟩
        go_wp2_with fail
        go_loopw [5] (fun jv wr => ∃ (j : Nat) (b : Option Addr) (m : Nat) (S : Sc), 1 ≤ j ∧ j ≤ i ∧ jv = .int .i64 j ∧ Hid (P.getD (j - 1) .z = S) ∧ Hid (Chg w wr nob) ∧ Hid (Blk wr ix 26 (scL S (.slice b S.l.length m))) ∧ Hid (Rd wr 5 (.slice b S.l.length m) S.l.length (cellsV S.l) ∧ ∀ k, blkOf (.slice b S.l.length m) k → k ≠ ix)) (fun jv _ => i - (intOf jv).toNat)
        case atStart => exact ⟨1, sa, sn, s, Nat.le_refl _, hn0, rfl, Hse, HC, HB, HS0⟩
        case round =>
          clear HC HB HS0
          obtain ⟨j, sb, sm, S, hj1, hji, rfl, HSE, HC, HB, HSR⟩ := hrel
          rename World => wo
          have HMS : Hid (S.may = true) := Lib.hid (by rw [← HSE.out]; exact HM.out (j - 1) (by omega))
          by_cases hjl : j < i
          · have hjii : (j : Int) < (i : Int) := by omega
            have hj0 : (0 : Int) ≤ (j : Int) := by omega
            obtain ⟨tv, tr, tk⟩ := HPI.out (j) (by omega)
            obtain ⟨ta, tn, rfl, _⟩ := tr.form
            obtain ⟨t, te⟩ : ∃ s, P.getD (j) .z = s := ⟨_, rfl⟩
            rw [te] at tr tk
            have Ht := Lib.hid tr
            have Hte := Lib.hid te
            have t0 := HC.out.cell (tk 0 (by decide)) id
            have t1 := HC.out.cell (tk 1 (by decide)) id
            have t2 := HC.out.cell (tk 2 (by decide)) id
            have t3 := HC.out.cell (tk 3 (by decide)) id
            have t4 := HC.out.cell (tk 4 (by decide)) id
            have t5 := HC.out.cell (tk 5 (by decide)) id
            have t6 := HC.out.cell (tk 6 (by decide)) id
            simp only [List.getElem?_cons_zero, List.getElem?_cons_succ, Nat.add_zero, Nat.zero_mul] at t0 t1 t2 t3 t4 t5 t6
            clear tk te tr
            have HMT : Hid (t.may = true) := Lib.hid (by rw [← Hte.out]; exact HM.out j hjl)
            have htl := (Sc.may_len HMT.out).1
            go_upto_region 14 with (fail)
            refine wp_one [0, 4] [5] [] [0, 1, 2, 3, 4, 5, 6, 7, 8, 9, 10] rfl (by kernel_rfl) (fun _ _ _ _ _ h => h) ?_; simp only [List.map_cons, List.map_nil, List.getElem?_toArray, List.getElem?_cons_zero, List.getElem?_cons_succ]
            obtain ⟨w2, hwd⟩ : ∃ W, World.drew wo = W := ⟨_, rfl⟩
            have hck : Chg wo w2 nob := by rw [← hwd]; exact (Chg.refl wo nob).drew
            rw [hwd]
            clear hwd
            replace t0 := hck.cell t0 id
            replace t1 := hck.cell t1 id
            replace t2 := hck.cell t2 id
            replace t3 := hck.cell t3 id
            replace t4 := hck.cell t4 id
            replace t5 := hck.cell t5 id
            replace t6 := hck.cell t6 id
            replace HB := Lib.hid (HB.out.kept hck id)
            replace HC := Lib.hid (HC.out.trans hck (fun _ _ h => h))
            have HSR2 := Lib.hid (HSR.out.1.kept hck (fun _ _ => id))
            have HSA := Lib.hid HSR.out.2
            clear hck HSR
            have cb0 := HB.out.cell 0
            have cb1 := HB.out.cell 1
            have cb2 := HB.out.cell 2
            have cb3 := HB.out.cell 3
            have cb4 := HB.out.cell 4
            have cb5 := HB.out.cell 5
            have cb6 := HB.out.cell 6
            simp only [List.getElem?_toArray, List.getElem?_cons_zero, List.getElem?_cons_succ] at cb0 cb1 cb2 cb3 cb4 cb5 cb6
            have HMK := Lib.hid (dmake_ok w2 S t (.slice sb S.l.length sm) (.slice ta t.l.length tn) HSR2.out (Ht.out.kept HC.out (fun _ _ => id)) HMS.out HMT.out (HT.out.kept HC.out))
            obtain ⟨D, hD⟩ : ∃ D, diffL S t = D := ⟨_, rfl⟩
            have HDD := Lib.hid hD
            rw [hD] at HMK
            clear hD
            (repeat (first | (apply can0; (· rfl); (· rfl); (· (intro w'; first | (go_simp; with_reducible rfl) | (go_simp; done))); simp only [Act.put, List.setIfInBounds_toArray, List.set_cons_zero, List.set_cons_succ]) | (apply can1; (· rfl); (· rfl); (· (first | (go_simp; with_reducible rfl) | (go_simp; done))); simp only [Act.put, List.setIfInBounds_toArray, List.set_cons_zero, List.set_cons_succ]) | (apply canN; (· rfl); (· rfl); simp only [Act.put, List.setIfInBounds_toArray, List.set_cons_zero, List.set_cons_succ]) | (apply canN1; (· rfl); (· rfl); simp only [Act.put, List.setIfInBounds_toArray, List.set_cons_zero, List.set_cons_succ]) | (apply can0; (· rfl); (· (go_simp; done)); (· (intro w'; first | (go_simp; with_reducible rfl) | (go_simp; done))); simp only [Act.put, List.setIfInBounds_toArray, List.set_cons_zero, List.set_cons_succ]) | (apply can1; (· rfl); (· (go_simp; done)); (· (first | (go_simp; with_reducible rfl) | (go_simp; done))); simp only [Act.put, List.setIfInBounds_toArray, List.set_cons_zero, List.set_cons_succ]) | (apply canN; (· rfl); (· (go_simp; done)); simp only [Act.put, List.setIfInBounds_toArray, List.set_cons_zero, List.set_cons_succ]) | (apply canN1; (· rfl); (· (go_simp; done)); simp only [Act.put, List.setIfInBounds_toArray, List.set_cons_zero, List.set_cons_succ])))
            refine canW rfl [] rfl (fun K hK => ?_)
            go_simp
            go_at_call 24
            refine HMK.out.mono ?_
            rintro e w3 ⟨ad, nd, rfl, hby, hck⟩
            have HD := Lib.hid hby
            replace t0 := hck.cell t0 id
            replace t1 := hck.cell t1 id
            replace t2 := hck.cell t2 id
            replace t3 := hck.cell t3 id
            replace t4 := hck.cell t4 id
            replace t5 := hck.cell t5 id
            replace t6 := hck.cell t6 id
            replace HB := Lib.hid (HB.out.kept hck id)
            replace HC := Lib.hid (HC.out.trans hck (fun _ _ h => h))
            replace HSR2 := Lib.hid (HSR2.out.kept hck (fun _ _ => id))
            clear hby hck HMK cb0 cb1 cb2 cb3 cb4 cb5 cb6
            have cb0 := HB.out.cell 0
            have cb1 := HB.out.cell 1
            have cb2 := HB.out.cell 2
            have cb3 := HB.out.cell 3
            have cb4 := HB.out.cell 4
            have cb5 := HB.out.cell 5
            have cb6 := HB.out.cell 6
            simp only [List.getElem?_toArray, List.getElem?_cons_zero, List.getElem?_cons_succ] at cb0 cb1 cb2 cb3 cb4 cb5 cb6
            (refine hK _ _ (fun u hu => by cases hu) ?_; clear hK K; try simp only [Act.put, List.setIfInBounds_toArray, List.set_cons_zero, List.set_cons_succ])
            (repeat (first | (apply can0; (· rfl); (· rfl); (· (intro w'; first | (go_simp; with_reducible rfl) | (go_simp; done))); simp only [Act.put, List.setIfInBounds_toArray, List.set_cons_zero, List.set_cons_succ]) | (apply can1; (· rfl); (· rfl); (· (first | (go_simp; with_reducible rfl) | (go_simp; done))); simp only [Act.put, List.setIfInBounds_toArray, List.set_cons_zero, List.set_cons_succ]) | (apply canN; (· rfl); (· rfl); simp only [Act.put, List.setIfInBounds_toArray, List.set_cons_zero, List.set_cons_succ]) | (apply canN1; (· rfl); (· rfl); simp only [Act.put, List.setIfInBounds_toArray, List.set_cons_zero, List.set_cons_succ]) | (apply can0; (· rfl); (· (go_simp; done)); (· (intro w'; first | (go_simp; with_reducible rfl) | (go_simp; done))); simp only [Act.put, List.setIfInBounds_toArray, List.set_cons_zero, List.set_cons_succ]) | (apply can1; (· rfl); (· (go_simp; done)); (· (first | (go_simp; with_reducible rfl) | (go_simp; done))); simp only [Act.put, List.setIfInBounds_toArray, List.set_cons_zero, List.set_cons_succ]) | (apply canN; (· rfl); (· (go_simp; done)); simp only [Act.put, List.setIfInBounds_toArray, List.set_cons_zero, List.set_cons_succ]) | (apply canN1; (· rfl); (· (go_simp; done)); simp only [Act.put, List.setIfInBounds_toArray, List.set_cons_zero, List.set_cons_succ])))
            refine canE ?_
            have HAP := Lib.hid (dapply_ok w3 S t (.slice sb S.l.length sm) (.slice ad D.length nd) HSR2.out HMS.out HMT.out (by rw [HDD.out]; exact HD.out) (HT.out.kept HC.out))
            go_wp2_with fail
            go_at_call 25
            refine HAP.out.mono ?_
            rintro e w4 ⟨xa, xn, rfl, hcs, hck⟩
            replace t0 := hck.cell t0 id
            replace t1 := hck.cell t1 id
            replace t2 := hck.cell t2 id
            replace t3 := hck.cell t3 id
            replace t4 := hck.cell t4 id
            replace t5 := hck.cell t5 id
            replace t6 := hck.cell t6 id
            replace HB := Lib.hid (HB.out.kept hck id)
            replace HC := Lib.hid (HC.out.trans hck (fun _ _ h => h))
            clear hck HAP HSR2 HD cb0 cb1 cb2 cb3 cb4 cb5 cb6
            go_upto_region 16 with (fail)
            obtain ⟨w5, hw⟩ : ∃ W, w4.alloc (.cells (scL t (.slice xa t.l.length xn)) 26) = W := ⟨_, rfl⟩
            have hck : Chg w4 w5 nob := by rw [← hw]; exact (Chg.refl w4 nob).alloc _
            have HZ : Hid (Blk w5 w4.heap.size 26 (scL t (.slice xa t.l.length xn))) := Lib.hid (by rw [← hw]; exact Blk.new w4 _ _)
            rw [hw]
            clear hw
            have HZX : Hid (w4.heap.size ≠ ix) := Lib.hid (fun e => by have := HB.out.lt; omega)
            obtain ⟨iz, hiz⟩ : ∃ k, w4.heap.size = k := ⟨_, rfl⟩
            rw [hiz] at HZ HZX ⊢
            clear hiz
            have HXR := Lib.hid (hcs.kept hck)
            replace t0 := hck.cell t0 id
            replace t1 := hck.cell t1 id
            replace t2 := hck.cell t2 id
            replace t3 := hck.cell t3 id
            replace t4 := hck.cell t4 id
            replace t5 := hck.cell t5 id
            replace t6 := hck.cell t6 id
            replace HB := Lib.hid (HB.out.kept hck id)
            replace HC := Lib.hid (HC.out.trans hck (fun _ _ h => h))
            clear hck hcs
            refine wp_one [7, 11] [12] [] [0, 1, 2, 3, 4, 5, 6, 7, 8, 9, 10, 11, 12, 13, 14] rfl (by kernel_rfl) (fun _ _ _ _ _ h => h) ?_; simp only [List.map_cons, List.map_nil, List.getElem?_toArray, List.getElem?_cons_zero, List.getElem?_cons_succ]
            obtain ⟨w6, hwd⟩ : ∃ W, World.drew w5 = W := ⟨_, rfl⟩
            have hck : Chg w5 w6 nob := by rw [← hwd]; exact (Chg.refl w5 nob).drew
            rw [hwd]
            clear hwd
            replace HXR := Lib.hid (HXR.out.kept hck)
            replace HZ := Lib.hid (HZ.out.kept hck id)
            replace t0 := hck.cell t0 id
            replace t1 := hck.cell t1 id
            replace t2 := hck.cell t2 id
            replace t3 := hck.cell t3 id
            replace t4 := hck.cell t4 id
            replace t5 := hck.cell t5 id
            replace t6 := hck.cell t6 id
            replace HB := Lib.hid (HB.out.kept hck id)
            replace HC := Lib.hid (HC.out.trans hck (fun _ _ h => h))
            clear hck
            have cz0 := HZ.out.cell 0
            have cz1 := HZ.out.cell 1
            have cz2 := HZ.out.cell 2
            have cz3 := HZ.out.cell 3
            have cz4 := HZ.out.cell 4
            have cz5 := HZ.out.cell 5
            have cz6 := HZ.out.cell 6
            simp only [List.getElem?_toArray, List.getElem?_cons_zero, List.getElem?_cons_succ] at cz0 cz1 cz2 cz3 cz4 cz5 cz6
            (repeat (first | (apply can0; (· rfl); (· rfl); (· (intro w'; first | (go_simp; with_reducible rfl) | (go_simp; done))); simp only [Act.put, List.setIfInBounds_toArray, List.set_cons_zero, List.set_cons_succ]) | (apply can1; (· rfl); (· rfl); (· (first | (go_simp; with_reducible rfl) | (go_simp; done))); simp only [Act.put, List.setIfInBounds_toArray, List.set_cons_zero, List.set_cons_succ]) | (apply canN; (· rfl); (· rfl); simp only [Act.put, List.setIfInBounds_toArray, List.set_cons_zero, List.set_cons_succ]) | (apply canN1; (· rfl); (· rfl); simp only [Act.put, List.setIfInBounds_toArray, List.set_cons_zero, List.set_cons_succ]) | (apply can0; (· rfl); (· (go_simp; done)); (· (intro w'; first | (go_simp; with_reducible rfl) | (go_simp; done))); simp only [Act.put, List.setIfInBounds_toArray, List.set_cons_zero, List.set_cons_succ]) | (apply can1; (· rfl); (· (go_simp; done)); (· (first | (go_simp; with_reducible rfl) | (go_simp; done))); simp only [Act.put, List.setIfInBounds_toArray, List.set_cons_zero, List.set_cons_succ]) | (apply canN; (· rfl); (· (go_simp; done)); simp only [Act.put, List.setIfInBounds_toArray, List.set_cons_zero, List.set_cons_succ]) | (apply canN1; (· rfl); (· (go_simp; done)); simp only [Act.put, List.setIfInBounds_toArray, List.set_cons_zero, List.set_cons_succ])))
            refine canW rfl [] rfl (fun K hK => ?_)
            go_simp
            go_at_call 21
            refine (same_scs w6 t _ _ HXR.out.1.rd (Ht.out.kept HC.out (fun _ _ => id)) (by omega)).mono ?_
            rintro e w7 ⟨rfl, hck⟩
            replace HXR := Lib.hid (HXR.out.kept hck)
            replace HZ := Lib.hid (HZ.out.kept hck id)
            replace HB := Lib.hid (HB.out.kept hck id)
            replace HC := Lib.hid (HC.out.trans hck (fun _ _ h => h))
            clear hck cz0 cz1 cz2 cz3 cz4 cz5 cz6 t0 t1 t2 t3 t4 t5 t6
            (refine hK _ _ (fun u hu => by cases hu) ?_; clear hK K; try simp only [Act.put, List.setIfInBounds_toArray, List.set_cons_zero, List.set_cons_succ])
            (repeat (first | (apply can0; (· rfl); (· rfl); (· (intro w'; first | (go_simp; with_reducible rfl) | (go_simp; done))); simp only [Act.put, List.setIfInBounds_toArray, List.set_cons_zero, List.set_cons_succ]) | (apply can1; (· rfl); (· rfl); (· (first | (go_simp; with_reducible rfl) | (go_simp; done))); simp only [Act.put, List.setIfInBounds_toArray, List.set_cons_zero, List.set_cons_succ]) | (apply canN; (· rfl); (· rfl); simp only [Act.put, List.setIfInBounds_toArray, List.set_cons_zero, List.set_cons_succ]) | (apply canN1; (· rfl); (· rfl); simp only [Act.put, List.setIfInBounds_toArray, List.set_cons_zero, List.set_cons_succ]) | (apply can0; (· rfl); (· (go_simp; done)); (· (intro w'; first | (go_simp; with_reducible rfl) | (go_simp; done))); simp only [Act.put, List.setIfInBounds_toArray, List.set_cons_zero, List.set_cons_succ]) | (apply can1; (· rfl); (· (go_simp; done)); (· (first | (go_simp; with_reducible rfl) | (go_simp; done))); simp only [Act.put, List.setIfInBounds_toArray, List.set_cons_zero, List.set_cons_succ]) | (apply canN; (· rfl); (· (go_simp; done)); simp only [Act.put, List.setIfInBounds_toArray, List.set_cons_zero, List.set_cons_succ]) | (apply canN1; (· rfl); (· (go_simp; done)); simp only [Act.put, List.setIfInBounds_toArray, List.set_cons_zero, List.set_cons_succ])))
            refine canE ?_
            have cz0 := HZ.out.cell 0
            have cz1 := HZ.out.cell 1
            have cz2 := HZ.out.cell 2
            have cz3 := HZ.out.cell 3
            have cz4 := HZ.out.cell 4
            have cz5 := HZ.out.cell 5
            have cz6 := HZ.out.cell 6
            simp only [List.getElem?_toArray, List.getElem?_cons_zero, List.getElem?_cons_succ] at cz0 cz1 cz2 cz3 cz4 cz5 cz6
            have cb0 := HB.out.cell 0
            have cb1 := HB.out.cell 1
            have cb2 := HB.out.cell 2
            have cb3 := HB.out.cell 3
            have cb4 := HB.out.cell 4
            have cb5 := HB.out.cell 5
            have cb6 := HB.out.cell 6
            simp only [List.getElem?_toArray, List.getElem?_cons_zero, List.getElem?_cons_succ] at cb0 cb1 cb2 cb3 cb4 cb5 cb6
            have fr0 := HB.out.free 0
            have fr1 := HB.out.free 1
            have fr2 := HB.out.free 2
            have fr3 := HB.out.free 3
            have fr4 := HB.out.free 4
            have fr5 := HB.out.free 5
            have fr6 := HB.out.free 6
            go_upto_region 13 with (fail)
            obtain ⟨wz, hwz⟩ : ∃ W, ((((((World.setCell w7 ⟨ix, 0, none⟩ (.int .i64 t.r)).setCell ⟨ix, 1, none⟩ (.int .i64 t.c)).setCell ⟨ix, 2, none⟩ (.slice xa t.l.length xn)).setCell ⟨ix, 3, none⟩ (.int .i64 t.y)).setCell ⟨ix, 4, none⟩ (.int .i64 t.x)).setCell ⟨ix, 5, none⟩ (.bool t.h)).setCell ⟨ix, 6, none⟩ (.string t.t) = W := ⟨_, rfl⟩
            have HBZ : Hid (Blk wz ix 26 (scL t (.slice xa t.l.length xn))) := Lib.hid (by rw [← hwz]; exact ((((((HB.out.set 0 _).set 1 _).set 2 _).set 3 _).set 4 _).set 5 _).set 6 _)
            have hcq : Chg w7 wz (fun k => k = ix) := by
              rw [← hwz]
              exact (((((((Chg.refl w7 (fun k => k = ix)).setCell (p := ⟨ix, 0, none⟩) (.inl rfl) _).setCell (p := ⟨ix, 1, none⟩) (.inl rfl) _).setCell (p := ⟨ix, 2, none⟩) (.inl rfl) _).setCell (p := ⟨ix, 3, none⟩) (.inl rfl) _).setCell (p := ⟨ix, 4, none⟩) (.inl rfl) _).setCell (p := ⟨ix, 5, none⟩) (.inl rfl) _).setCell (p := ⟨ix, 6, none⟩) (.inl rfl) _
            have HNE : Hid (∀ k, blkOf (.slice xa t.l.length xn) k → k ≠ ix) := Lib.hid (fun k hk e => HXR.out.1.ne HB.out (by decide) (by rwa [← e]))
            have HSZ : Hid (Rd wz 5 (.slice xa t.l.length xn) t.l.length (cellsV t.l) ∧ ∀ k, blkOf (.slice xa t.l.length xn) k → k ≠ ix) := Lib.hid ⟨HXR.out.1.rd.kept hcq (fun k hk e => HNE.out k hk e), HNE.out⟩
            have HCZ : Hid (Chg w wz nob) := Lib.hid (HC.out.trans hcq (fun q hq e => by have := HWS.out; omega))
            rw [hwz]
            clear hwz hcq HB HC HXR HZ cz0 cz1 cz2 cz3 cz4 cz5 cz6 cb0 cb1 cb2 cb3 cb4 cb5 cb6 fr0 fr1 fr2 fr3 fr4 fr5 fr6
            go_wp2
            go_roundw
            case rel => exact ⟨j + 1, xa, xn, t, by omega, by omega, by go_num, Lib.hid (by rw [Nat.add_sub_cancel]; exact Hte.out), HCZ, HBZ, HSZ⟩
            case measure => simp [intOf]; omega
          · obtain rfl : j = i := by omega
            obtain ⟨tv, tr, tk⟩ := HPI.out (0) (by omega)
            obtain ⟨ta, tn, rfl, _⟩ := tr.form
            obtain ⟨t, te⟩ : ∃ s, P.getD (0) .z = s := ⟨_, rfl⟩
            rw [te] at tr tk
            have Ht := Lib.hid tr
            have Hte := Lib.hid te
            have t0 := HC.out.cell (tk 0 (by decide)) id
            have t1 := HC.out.cell (tk 1 (by decide)) id
            have t2 := HC.out.cell (tk 2 (by decide)) id
            have t3 := HC.out.cell (tk 3 (by decide)) id
            have t4 := HC.out.cell (tk 4 (by decide)) id
            have t5 := HC.out.cell (tk 5 (by decide)) id
            have t6 := HC.out.cell (tk 6 (by decide)) id
            simp only [List.getElem?_cons_zero, List.getElem?_cons_succ, Nat.add_zero, Nat.zero_mul] at t0 t1 t2 t3 t4 t5 t6
            clear tk te tr
            have HMT : Hid (t.may = true) := Lib.hid (by rw [← Hte.out]; exact HM.out 0 hn0)
            have htl := (Sc.may_len HMT.out).1
            have hsl := (Sc.may_len HMS.out).1
            go_upto_region 19 with (fail)
            refine wp_one [2, 3] [4] [] [0, 1, 2, 3, 4, 5, 6, 7, 8, 9] rfl (by kernel_rfl) (fun _ _ _ _ _ h => h) ?_; simp only [List.map_cons, List.map_nil, List.getElem?_toArray, List.getElem?_cons_zero, List.getElem?_cons_succ]
            obtain ⟨w2, hwd⟩ : ∃ W, World.drew wo = W := ⟨_, rfl⟩
            have hck : Chg wo w2 nob := by rw [← hwd]; exact (Chg.refl wo nob).drew
            rw [hwd]
            clear hwd
            replace t0 := hck.cell t0 id
            replace t1 := hck.cell t1 id
            replace t2 := hck.cell t2 id
            replace t3 := hck.cell t3 id
            replace t4 := hck.cell t4 id
            replace t5 := hck.cell t5 id
            replace t6 := hck.cell t6 id
            replace HB := Lib.hid (HB.out.kept hck id)
            replace HC := Lib.hid (HC.out.trans hck (fun _ _ h => h))
            have HSR2 := Lib.hid (HSR.out.1.kept hck (fun _ _ => id))
            clear hck HSR
            have cb0 := HB.out.cell 0
            have cb1 := HB.out.cell 1
            have cb2 := HB.out.cell 2
            have cb3 := HB.out.cell 3
            have cb4 := HB.out.cell 4
            have cb5 := HB.out.cell 5
            have cb6 := HB.out.cell 6
            simp only [List.getElem?_toArray, List.getElem?_cons_zero, List.getElem?_cons_succ] at cb0 cb1 cb2 cb3 cb4 cb5 cb6
            have HMK := Lib.hid (dmake_ok w2 t S (.slice ta t.l.length tn) (.slice sb S.l.length sm) (Ht.out.kept HC.out (fun _ _ => id)) HSR2.out HMT.out HMS.out (HT.out.kept HC.out))
            obtain ⟨D, hD⟩ : ∃ D, diffL t S = D := ⟨_, rfl⟩
            have HDD := Lib.hid hD
            rw [hD] at HMK
            have hDl : D.length ≤ 1000000 := by
              have h3 := keyD_len S
              have h4 := headD_len S
              have h5 := strL_len t.l.length 0 t.l S.l (Nat.le_refl _) (by omega)
              have h6 := (Sc.may_len HMS.out).2.1
              rw [← hD]
              unfold diffL
              split
              · simp only [List.length_cons]; omega
              · simp only [List.length_cons, List.length_append]; omega
            clear hD
            (repeat (first | (apply can0; (· rfl); (· rfl); (· (intro w'; first | (go_simp; with_reducible rfl) | (go_simp; done))); simp only [Act.put, List.setIfInBounds_toArray, List.set_cons_zero, List.set_cons_succ]) | (apply can1; (· rfl); (· rfl); (· (first | (go_simp; with_reducible rfl) | (go_simp; done))); simp only [Act.put, List.setIfInBounds_toArray, List.set_cons_zero, List.set_cons_succ]) | (apply canN; (· rfl); (· rfl); simp only [Act.put, List.setIfInBounds_toArray, List.set_cons_zero, List.set_cons_succ]) | (apply canN1; (· rfl); (· rfl); simp only [Act.put, List.setIfInBounds_toArray, List.set_cons_zero, List.set_cons_succ]) | (apply can0; (· rfl); (· (go_simp; done)); (· (intro w'; first | (go_simp; with_reducible rfl) | (go_simp; done))); simp only [Act.put, List.setIfInBounds_toArray, List.set_cons_zero, List.set_cons_succ]) | (apply can1; (· rfl); (· (go_simp; done)); (· (first | (go_simp; with_reducible rfl) | (go_simp; done))); simp only [Act.put, List.setIfInBounds_toArray, List.set_cons_zero, List.set_cons_succ]) | (apply canN; (· rfl); (· (go_simp; done)); simp only [Act.put, List.setIfInBounds_toArray, List.set_cons_zero, List.set_cons_succ]) | (apply canN1; (· rfl); (· (go_simp; done)); simp only [Act.put, List.setIfInBounds_toArray, List.set_cons_zero, List.set_cons_succ])))
            refine canW rfl [] rfl (fun K hK => ?_)
            go_simp
            go_at_call 24
            refine HMK.out.mono ?_
            rintro e w3 ⟨ad, nd, rfl, hby, hck⟩
            have HD := Lib.hid hby
            replace t0 := hck.cell t0 id
            replace t1 := hck.cell t1 id
            replace t2 := hck.cell t2 id
            replace t3 := hck.cell t3 id
            replace t4 := hck.cell t4 id
            replace t5 := hck.cell t5 id
            replace t6 := hck.cell t6 id
            replace HB := Lib.hid (HB.out.kept hck id)
            replace HC := Lib.hid (HC.out.trans hck (fun _ _ h => h))
            clear hby hck HMK HSR2 cb0 cb1 cb2 cb3 cb4 cb5 cb6
            (refine hK _ _ (fun u hu => by cases hu) ?_; clear hK K; try simp only [Act.put, List.setIfInBounds_toArray, List.set_cons_zero, List.set_cons_succ])
            (repeat (first | (apply can0; (· rfl); (· rfl); (· (intro w'; first | (go_simp; with_reducible rfl) | (go_simp; done))); simp only [Act.put, List.setIfInBounds_toArray, List.set_cons_zero, List.set_cons_succ]) | (apply can1; (· rfl); (· rfl); (· (first | (go_simp; with_reducible rfl) | (go_simp; done))); simp only [Act.put, List.setIfInBounds_toArray, List.set_cons_zero, List.set_cons_succ]) | (apply canN; (· rfl); (· rfl); simp only [Act.put, List.setIfInBounds_toArray, List.set_cons_zero, List.set_cons_succ]) | (apply canN1; (· rfl); (· rfl); simp only [Act.put, List.setIfInBounds_toArray, List.set_cons_zero, List.set_cons_succ]) | (apply can0; (· rfl); (· (go_simp; done)); (· (intro w'; first | (go_simp; with_reducible rfl) | (go_simp; done))); simp only [Act.put, List.setIfInBounds_toArray, List.set_cons_zero, List.set_cons_succ]) | (apply can1; (· rfl); (· (go_simp; done)); (· (first | (go_simp; with_reducible rfl) | (go_simp; done))); simp only [Act.put, List.setIfInBounds_toArray, List.set_cons_zero, List.set_cons_succ]) | (apply canN; (· rfl); (· (go_simp; done)); simp only [Act.put, List.setIfInBounds_toArray, List.set_cons_zero, List.set_cons_succ]) | (apply canN1; (· rfl); (· (go_simp; done)); simp only [Act.put, List.setIfInBounds_toArray, List.set_cons_zero, List.set_cons_succ])))
            refine canE ?_
            have HAP := Lib.hid (dapply_ok w3 t S (.slice ta t.l.length tn) (.slice ad D.length nd) (Ht.out.kept HC.out (fun _ _ => id)) HMT.out HMS.out (by rw [HDD.out]; exact HD.out) (HT.out.kept HC.out))
            go_wp2_with fail
            go_at_call 25
            refine HAP.out.mono ?_
            rintro e w4 ⟨xa, xn, rfl, hcs, hck⟩
            replace HD := Lib.hid (HD.out.kept hck)
            replace HC := Lib.hid (HC.out.trans hck (fun _ _ h => h))
            clear hck HAP HB t0 t1 t2 t3 t4 t5 t6
            go_upto_region 21 with (fail)
            obtain ⟨w5, hw⟩ : ∃ W, w4.alloc (.cells (scL S (.slice xa S.l.length xn)) 26) = W := ⟨_, rfl⟩
            have hck : Chg w4 w5 nob := by rw [← hw]; exact (Chg.refl w4 nob).alloc _
            have HZ : Hid (Blk w5 w4.heap.size 26 (scL S (.slice xa S.l.length xn))) := Lib.hid (by rw [← hw]; exact Blk.new w4 _ _)
            rw [hw]
            clear hw
            obtain ⟨iz, hiz⟩ : ∃ k, w4.heap.size = k := ⟨_, rfl⟩
            rw [hiz] at HZ ⊢
            clear hiz
            have HXR := Lib.hid (hcs.kept hck)
            replace HD := Lib.hid (HD.out.kept hck)
            replace HC := Lib.hid (HC.out.trans hck (fun _ _ h => h))
            clear hck hcs
            have HA0 := Lib.hid (dapply_any w5 .z (.slice none 0 0) (Cs.nil w5 w5).1.rd (Nat.zero_le _) (Nat.zero_le _) (.slice ad D.length nd) D HD.out hDl (HT.out.kept HC.out))
            go_wp2_with fail
            go_at_call 25
            refine HA0.out.mono ?_
            rintro e w6 ⟨hck, hap⟩
            have he : e = .returned (.tuple #[scV 0 0 (.slice none 0 0) 0 0 false ⟨#[]⟩, .int .i64 1]) := by
              cases hap with
              | range h he => exact he
              | none h hq he => rw [z_may] at h; cases h
              | some s x n h hq he hcs => rw [z_may] at h; cases h
            subst he
            replace HXR := Lib.hid (HXR.out.kept hck)
            replace HZ := Lib.hid (HZ.out.kept hck id)
            replace HC := Lib.hid (HC.out.trans hck (fun _ _ h => h))
            clear hck hap HA0 HD
            go_upto_region 22 with (fail)
            obtain ⟨w7, hw⟩ : ∃ W, w6.alloc (.cells zscr 26) = W := ⟨_, rfl⟩
            have hck : Chg w6 w7 nob := by rw [← hw]; exact (Chg.refl w6 nob).alloc _
            have hw' := hw
            simp only [zscr] at hw'
            rw [hw']
            clear hw hw'
            replace HXR := Lib.hid (HXR.out.kept hck)
            replace HZ := Lib.hid (HZ.out.kept hck id)
            replace HC := Lib.hid (HC.out.trans hck (fun _ _ h => h))
            clear hck
            refine wp_one [10, 16] [0, 17] [] [0, 1, 2, 3, 4, 5, 6, 7, 8, 9, 10, 11, 12, 13, 14, 15, 16, 17, 18, 19, 20, 21, 22, 23] rfl (by kernel_rfl) (fun _ _ _ _ _ h => h) ?_; simp only [List.map_cons, List.map_nil, List.getElem?_toArray, List.getElem?_cons_zero, List.getElem?_cons_succ]
            obtain ⟨w8, hwd⟩ : ∃ W, World.drew w7 = W := ⟨_, rfl⟩
            have hck : Chg w7 w8 nob := by rw [← hwd]; exact (Chg.refl w7 nob).drew
            rw [hwd]
            clear hwd
            replace HXR := Lib.hid (HXR.out.kept hck)
            replace HZ := Lib.hid (HZ.out.kept hck id)
            replace HC := Lib.hid (HC.out.trans hck (fun _ _ h => h))
            clear hck
            (repeat (first | (apply can0; (· rfl); (· rfl); (· (intro w'; first | (go_simp; with_reducible rfl) | (go_simp; done))); simp only [Act.put, List.setIfInBounds_toArray, List.set_cons_zero, List.set_cons_succ]) | (apply can1; (· rfl); (· rfl); (· (first | (go_simp; with_reducible rfl) | (go_simp; done))); simp only [Act.put, List.setIfInBounds_toArray, List.set_cons_zero, List.set_cons_succ]) | (apply canN; (· rfl); (· rfl); simp only [Act.put, List.setIfInBounds_toArray, List.set_cons_zero, List.set_cons_succ]) | (apply canN1; (· rfl); (· rfl); simp only [Act.put, List.setIfInBounds_toArray, List.set_cons_zero, List.set_cons_succ]) | (apply can0; (· rfl); (· (go_simp; done)); (· (intro w'; first | (go_simp; with_reducible rfl) | (go_simp; done))); simp only [Act.put, List.setIfInBounds_toArray, List.set_cons_zero, List.set_cons_succ]) | (apply can1; (· rfl); (· (go_simp; done)); (· (first | (go_simp; with_reducible rfl) | (go_simp; done))); simp only [Act.put, List.setIfInBounds_toArray, List.set_cons_zero, List.set_cons_succ]) | (apply canN; (· rfl); (· (go_simp; done)); simp only [Act.put, List.setIfInBounds_toArray, List.set_cons_zero, List.set_cons_succ]) | (apply canN1; (· rfl); (· (go_simp; done)); simp only [Act.put, List.setIfInBounds_toArray, List.set_cons_zero, List.set_cons_succ])))
            refine canW rfl [] rfl (fun K hK => ?_)
            go_simp
            go_at_call 23
            refine (dfirst_any w8 (HT.out.kept HC.out)).mono ?_
            rintro e w9 ⟨rfl, hck⟩
            replace HXR := Lib.hid (HXR.out.kept hck)
            replace HZ := Lib.hid (HZ.out.kept hck id)
            replace HC := Lib.hid (HC.out.trans hck (fun _ _ h => h))
            clear hck
            have hj1' : IntKind.i64.wrap ((j : Int) - 1) = ((j - 1 : Nat) : Int) := by simp only [IntKind.wrap, IntKind.bits, IntKind.signed]; simp; omega
            have hjm0 : (0 : Int) ≤ ((j - 1 : Nat) : Int) := by omega
            have hjm1 : ((j - 1 : Nat) : Int) < (j : Int) := by omega
            obtain ⟨qv, qr, qk⟩ := HPI.out (j - 1) (by omega)
            obtain ⟨qa, qn, rfl, _⟩ := qr.form
            obtain ⟨q, qe⟩ : ∃ s, P.getD (j - 1) .z = s := ⟨_, rfl⟩
            rw [qe] at qr qk
            have Hq := Lib.hid qr
            have Hqe := Lib.hid qe
            have q0 := HC.out.cell (qk 0 (by decide)) id
            have q1 := HC.out.cell (qk 1 (by decide)) id
            have q2 := HC.out.cell (qk 2 (by decide)) id
            have q3 := HC.out.cell (qk 3 (by decide)) id
            have q4 := HC.out.cell (qk 4 (by decide)) id
            have q5 := HC.out.cell (qk 5 (by decide)) id
            have q6 := HC.out.cell (qk 6 (by decide)) id
            simp only [List.getElem?_cons_zero, List.getElem?_cons_succ, Nat.add_zero, Nat.zero_mul] at q0 q1 q2 q3 q4 q5 q6
            clear qk qe qr
            obtain rfl : q = S := by rw [← Hqe.out, HSE.out]
            have cz0 := HZ.out.cell 0
            have cz1 := HZ.out.cell 1
            have cz2 := HZ.out.cell 2
            have cz3 := HZ.out.cell 3
            have cz4 := HZ.out.cell 4
            have cz5 := HZ.out.cell 5
            have cz6 := HZ.out.cell 6
            simp only [List.getElem?_toArray, List.getElem?_cons_zero, List.getElem?_cons_succ] at cz0 cz1 cz2 cz3 cz4 cz5 cz6
            (refine hK _ _ (fun u hu => by cases hu) ?_; clear hK K; try simp only [Act.put, List.setIfInBounds_toArray, List.set_cons_zero, List.set_cons_succ])
            (repeat (first | (apply can0; (· rfl); (· rfl); (· (intro w'; first | (go_simp; with_reducible rfl) | (go_simp; done))); simp only [Act.put, List.setIfInBounds_toArray, List.set_cons_zero, List.set_cons_succ]) | (apply can1; (· rfl); (· rfl); (· (first | (go_simp; with_reducible rfl) | (go_simp; done))); simp only [Act.put, List.setIfInBounds_toArray, List.set_cons_zero, List.set_cons_succ]) | (apply canN; (· rfl); (· rfl); simp only [Act.put, List.setIfInBounds_toArray, List.set_cons_zero, List.set_cons_succ]) | (apply canN1; (· rfl); (· rfl); simp only [Act.put, List.setIfInBounds_toArray, List.set_cons_zero, List.set_cons_succ]) | (apply can0; (· rfl); (· (go_simp; done)); (· (intro w'; first | (go_simp; with_reducible rfl) | (go_simp; done))); simp only [Act.put, List.setIfInBounds_toArray, List.set_cons_zero, List.set_cons_succ]) | (apply can1; (· rfl); (· (go_simp; done)); (· (first | (go_simp; with_reducible rfl) | (go_simp; done))); simp only [Act.put, List.setIfInBounds_toArray, List.set_cons_zero, List.set_cons_succ]) | (apply canN; (· rfl); (· (go_simp; done)); simp only [Act.put, List.setIfInBounds_toArray, List.set_cons_zero, List.set_cons_succ]) | (apply canN1; (· rfl); (· (go_simp; done)); simp only [Act.put, List.setIfInBounds_toArray, List.set_cons_zero, List.set_cons_succ])))
            refine canW rfl [] rfl (fun K hK => ?_)
            go_simp
            go_at_call 21
            refine (same_scs w9 q _ _ HXR.out.1.rd (Hq.out.kept HC.out (fun _ _ => id)) (by omega)).mono ?_
            rintro e w10 ⟨rfl, hck⟩
            replace HC := Lib.hid (HC.out.trans hck (fun _ _ h => h))
            clear hck cz0 cz1 cz2 cz3 cz4 cz5 cz6 q0 q1 q2 q3 q4 q5 q6
            (refine hK _ _ (fun u hu => by cases hu) ?_; clear hK K; try simp only [Act.put, List.setIfInBounds_toArray, List.set_cons_zero, List.set_cons_succ])
            (repeat (first | (apply can0; (· rfl); (· rfl); (· (intro w'; first | (go_simp; with_reducible rfl) | (go_simp; done))); simp only [Act.put, List.setIfInBounds_toArray, List.set_cons_zero, List.set_cons_succ]) | (apply can1; (· rfl); (· rfl); (· (first | (go_simp; with_reducible rfl) | (go_simp; done))); simp only [Act.put, List.setIfInBounds_toArray, List.set_cons_zero, List.set_cons_succ]) | (apply canN; (· rfl); (· rfl); simp only [Act.put, List.setIfInBounds_toArray, List.set_cons_zero, List.set_cons_succ]) | (apply canN1; (· rfl); (· rfl); simp only [Act.put, List.setIfInBounds_toArray, List.set_cons_zero, List.set_cons_succ]) | (apply can0; (· rfl); (· (go_simp; done)); (· (intro w'; first | (go_simp; with_reducible rfl) | (go_simp; done))); simp only [Act.put, List.setIfInBounds_toArray, List.set_cons_zero, List.set_cons_succ]) | (apply can1; (· rfl); (· (go_simp; done)); (· (first | (go_simp; with_reducible rfl) | (go_simp; done))); simp only [Act.put, List.setIfInBounds_toArray, List.set_cons_zero, List.set_cons_succ]) | (apply canN; (· rfl); (· (go_simp; done)); simp only [Act.put, List.setIfInBounds_toArray, List.set_cons_zero, List.set_cons_succ]) | (apply canN1; (· rfl); (· (go_simp; done)); simp only [Act.put, List.setIfInBounds_toArray, List.set_cons_zero, List.set_cons_succ])))
            refine canE ?_
            go_wp2
            go_ret
            exact ⟨rfl, HC.out⟩
  · rename World => wa
    rcases (show n < 1 ∨ (1 ≤ n ∧ 10 < n) by omega) with h | ⟨h1, h2⟩
    · have hi1 : (n : Int) < 1 := by omega
      go_wp2_with fail
      go_at_call 23
      refine (dfirst_any wa (HT.out.kept HC.out)).mono ?_
      rintro e x_ ⟨rfl, hck⟩
      replace HC := Lib.hid (HC.out.trans hck (fun _ _ h => h))
      clear hck
      go_wp2
      go_ret
      exact ⟨rfl, HC.out⟩
    · have hi1 : ¬ ((n : Int) < 1) := by omega
      have hi2 : (10 : Int) < (n : Int) := by omega
      go_wp2_with fail
      go_at_call 23
      refine (dfirst_any wa (HT.out.kept HC.out)).mono ?_
      rintro e x_ ⟨rfl, hck⟩
      replace HC := Lib.hid (HC.out.trans hck (fun _ _ h => h))
      clear hck
      go_wp2
      go_ret
      exact ⟨rfl, HC.out⟩
end Go.Proofs.YtiojhfaeeelfeaaDoor
