
/-
  PeerPlays: any key, any end, any operations.
-/
import Derived.Test.YtcgdmidjejmjhaaDoorPeerSt
namespace Go.Proofs.YtcgdmidjejmjhaaDoor
open Go.RowKit
set_option linter.unusedVariables false
set_option linter.unusedSimpArgs false

theorem OpsA.kept {w w' : World} {a : Option Addr} {c : Nat} {l : List O27} (h : OpsA w a c l) (hc : Chg w w' nob) : OpsA w' a c l :=
  ⟨h.1, fun i hi => by
    obtain ⟨h1, g, o, u, ha, c0, c1, c2, c3, hb⟩ := h.2 i hi
    exact ⟨h1, g, o, u, ha, hc.cell c0 id, hc.cell c1 id, hc.cell c2 id, hc.cell c3 id, hb.kept hc⟩⟩
attribute [local go_sem ↓] run_min_two run_max_two run_cut_h run_cut_l
set_option maxRecDepth 100000 in
set_option maxHeartbeats 8000000 in
theorem PeerPlays_walk (a0 : Option Addr) (len0 cap0 : Nat) (a1 a2 a3 : Int) (a4 : Option Addr) (c4 : Nat) (P4 : List O27) (w : World) (l0 : List Int)
    (hr0 : Rd w 1 (.slice a0 len0 cap0) len0 (l0.map (Value.int .u8))) (hl0 : l0.length = len0) (y0 : len0 * 1 ≤ 140737488351232) (w0 : ∀ x ∈ l0, 0 ≤ x ∧ x ≤ 255) (nk0 : NilOk (.slice a0 len0 cap0))
    (w1 : -9223372036854775808 ≤ a1 ∧ a1 ≤ 9223372036854775807) (w2 : -9223372036854775808 ≤ a2 ∧ a2 ≤ 9223372036854775807) (w3 : 0 ≤ a3 ∧ a3 ≤ 18446744073709551615)
    (h4 : OpsA w a4 c4 P4) (ht : Tab w) :
    Calls Tryd.prog 3 #[.slice a0 len0 cap0, .int .i64 a1, .int .i64 a2, .int .u64 a3, .slice a4 P4.length c4] w fun e w' => e = .returned (.bool true) ∧ Chg w w' nob := by
  subst hl0
  obtain ⟨P, hPP⟩ : ∃ P, P4 = P := ⟨_, rfl⟩
  subst hPP
  have K0 : Hid (By w (.slice a0 l0.length cap0) l0) := Lib.hid ⟨hr0, nk0, w0⟩
  have H4 := Lib.hid h4
  have HT := Lib.hid ht
  have i0 : (0 : Int) ≤ (l0.length : Int) := by omega
  have i4 : (0 : Int) ≤ (P4.length : Int) := by omega
  obtain ⟨v1, v1'⟩ := w1
  obtain ⟨v2, v2'⟩ := w2
  obtain ⟨v3, v3'⟩ := w3
  clear hr0 nk0 w0 h4 ht
  go_enter Tryd.func3, Tryd.ntmps3
  go_wp2_with fail
  go_at_call 4
  refine (first27_any w HT.out).mono ?_
  rintro e w1 ⟨rfl, hck⟩
  have HC := Lib.hid hck
  clear hck
  by_cases hk : l0.length ≤ 1000
  · have hki : (l0.length : Int) ≤ 1000 := by omega
    by_cases hf : fewP P4
    · have HF := Lib.hid (decide_eq_true hf)
      have HF2 := Lib.hid hf
      clear hf
      go_wp2_with fail
      go_at_call 5
      refine (few_any w1 a4 c4 P4 (H4.out.kept HC.out)).mono ?_
      rw [HF.out]
      rintro e x ⟨rfl, rfl⟩
      by_cases hn : newOk a1 a2 a3
      · have HN := Lib.hid hn
        obtain ⟨n1, n2, n3, n4⟩ := hn
        go_wp2_with fail
        go_at_call 6
        refine (pnew_ok w1 l0 _ a1 a2 a3 (K0.out.kept HC.out) (by omega) HN.out).mono ?_
        rintro e w2 ⟨ga, gwa, ua, rfl, hpa, hca, hga, hgwa, hua⟩
        have HA := Lib.hid hpa
        have HGA : Hid (w.heap.size ≤ ga ∧ w.heap.size ≤ gwa ∧ ga < w2.heap.size ∧ gwa < w2.heap.size) := Lib.hid ⟨Nat.le_trans HC.out.size hga, Nat.le_trans HC.out.size hgwa, hpa.blk.lt, hpa.win.lt⟩
        replace HC : Hid (Chg w w2 nob) := Lib.hid (HC.out.trans hca (fun _ _ h => h))
        clear hpa hca hga hgwa hua
        go_wp2_with fail
        go_at_call 7
        refine (rnew_ok w2 l0 _ a1 a2 a3 (K0.out.kept HC.out) (by omega) HN.out).mono ?_
        rintro e w3 ⟨gx, ux, rfl, hpx, hck, hgx, hux⟩
        have HX := Lib.hid hpx
        replace HA := Lib.hid (HA.out.kept hck)
        have HGX : Hid (w2.heap.size ≤ gx ∧ gx < w3.heap.size) := Lib.hid ⟨hgx, hpx.blk.lt⟩
        have HS3 : Hid (w.heap.size ≤ w2.heap.size ∧ w2.heap.size ≤ w3.heap.size) := Lib.hid ⟨HC.out.size, hck.size⟩
        replace HC : Hid (Chg w w3 nob) := Lib.hid (HC.out.trans hck (fun _ _ h => h))
        clear hpx hck hgx hux
        have hw3 : IntKind.i64.wrap (3 - a1) = 3 - a1 := by simp only [IntKind.wrap, IntKind.bits, IntKind.signed]; simp; omega
        have HN3 : Hid (newOk (3 - a1) a2 0) := Lib.hid ⟨by omega, n2, n3, by decide⟩
        have HD := Lib.hid n1
        clear n1
        go_wp2_with fail
        go_at_call 7
        refine (rnew_ok w3 l0 _ (3 - a1) a2 0 (K0.out.kept HC.out) (by omega) HN3.out).mono ?_
        rintro e w4 ⟨gy, uy, rfl, hpy, hck, hgy, huy⟩
        have HO : Hid (St w w4 ga gwa gx gy ua ux uy ⟨l0, a1, a2, a3, 0, -1⟩ ⟨l0, a1, a2, a3, 0, -1⟩ ⟨l0, 3 - a1, a2, 0, 0, -1⟩ (.slice none 0 0) []) := Lib.hid (by
          have g1 := HGA.out
          have g2 := HGX.out
          have g3 := HS3.out
          have hkb : (∀ x ∈ l0, 0 ≤ x ∧ x ≤ 255) ∧ l0.length ≤ 1000000 := ⟨K0.out.byte, by omega⟩
          refine ⟨(Pt.nil w).kept (HC.out.trans hck (fun _ _ h => h)), fun x hx => (by cases hx), HA.out.kept hck, HX.out.kept hck, hpy, ⟨hkb, HD.out, ⟨n2, n3⟩, ⟨v3, n4⟩⟩, ⟨hkb, HD.out, ⟨n2, n3⟩, ⟨v3, n4⟩⟩, ⟨hkb, HN3.out.1, ⟨n2, n3⟩, ⟨(show (0 : Int) ≤ 0 from by decide), (show (0 : Int) ≤ 4611686018427387904 from by decide)⟩⟩, by omega, by omega⟩)
        clear hpy hck hgy huy HA HX HGA HGX HS3 HC hw3 HN3 HN n2 n3 n4
        generalize (⟨l0, a1, a2, a3, 0, -1⟩ : Pe) = s at HO
        generalize (⟨l0, 3 - a1, a2, 0, 0, -1⟩ : Pe) = sy at HO
        go_wp2_with fail
        go_loopw [17, 18, 19, 20, 21, 22, 23, 24, 25] (fun pv iv _ _ _ _ _ _ _ wr => ∃ (i : Nat) (s sy : Pe) (P : List (List Int)) (ap : Option Addr) (cp : Nat), i ≤ P4.length ∧ P.length ≤ i ∧ iv = .int .i64 i ∧ pv = .slice ap P.length cp ∧ Hid (St w wr ga gwa gx gy ua ux uy s s sy (.slice ap P.length cp) P)) (fun _ iv _ _ _ _ _ _ _ _ => P4.length - (intOf iv).toNat)
        case atStart => exact ⟨0, s, sy, [], none, 0, by omega, by simp, rfl, rfl, HO⟩
        case round =>
          clear HO
          obtain ⟨i, s, sy, P, ap, cp, hi, hpi, rfl, rfl, HO⟩ := hrel
          by_cases hil : i < P4.length
          · have hii : (i : Int) < (P4.length : Int) := by omega
            have hi0 : (0 : Int) ≤ (i : Int) := by omega
            have hi100 : i < 100 := by have h1 := HF2.out.1; omega
            have HBL : Hid ((P4.getD i .z).b.length ≤ 20000) := Lib.hid (sumB_each HF2.out.2 hil)
            obtain ⟨hok, g0, o0, u, rfl, c0, c1, c2, c3, hb⟩ := H4.out.2 i hil
            obtain ⟨q, hq⟩ : ∃ q, P4.getD i .z = q := ⟨_, rfl⟩
            rw [hq] at hok c0 c1 c2 hb HBL
            clear hq
            obtain ⟨kd, kk, fr, b⟩ := q
            obtain ⟨⟨b1, b2⟩, ⟨b3, b4⟩, ⟨b5, b6⟩⟩ := hok
            simp only at b1 b2 b3 b4 b5 b6
            simp only at c0 c1 c2 c3 hb HBL
            replace c0 := HO.out.chg.cell c0 id
            replace c1 := HO.out.chg.cell c1 id
            replace c2 := HO.out.chg.cell c2 id
            replace c3 := HO.out.chg.cell c3 id
            have HB := Lib.hid hb
            obtain ⟨ab, cb, rfl, _⟩ := hb.form
            clear hb
            go_upto_region 17 with (fail)
            have HP : Hid (Blk (wr.alloc (.cells #[.int .i64 kd, .int .i64 kk, .int .i64 fr, .slice ab b.length cb] 36)) wr.heap.size 36 #[.int .i64 kd, .int .i64 kk, .int .i64 fr, .slice ab b.length cb]) := Lib.hid (Blk.new _ _ _)
            replace HO := Lib.hid (HO.out.kept ((Chg.refl wr nob).alloc (.cells #[.int .i64 kd, .int .i64 kk, .int .i64 fr, .slice ab b.length cb] 36)))
            clear c0 c1 c2 c3
            generalize wr.alloc (.cells #[.int .i64 kd, .int .i64 kk, .int .i64 fr, .slice ab b.length cb] 36) = wD at *
            generalize wr.heap.size = p at *
            rcases (show kd = 0 ∨ kd = 1 ∨ kd = 2 ∨ kd = 3 ∨ (kd ≠ 0 ∧ kd ≠ 1 ∧ kd ≠ 2 ∧ kd ≠ 3) by omega) with k0 | k0 | k0 | k0 | ⟨n0, n1, n2, n3⟩
            · as_aux_lemma =>
                subst k0
                have q0 : wD.cell? ⟨p, 0, none⟩ = some (.int .i64 0) := by rw [HP.out.cell]; rfl
                have q1 : wD.cell? ⟨p, 1, none⟩ = some (.int .i64 kk) := by rw [HP.out.cell]; rfl
                have q2 : wD.cell? ⟨p, 2, none⟩ = some (.int .i64 fr) := by rw [HP.out.cell]; rfl
                have q3 : wD.cell? ⟨p, 3, none⟩ = some (.slice ab b.length cb) := by rw [HP.out.cell]; rfl
                go_wp2_with fail
                go_at_call 8
                refine (HO.out.asend HT.out HB.out).mono ?_
                rintro e w5 ⟨x1, rfl, hx, ho, hk⟩
                replace HO := Lib.hid ho
                replace HP := Lib.hid (hk.1 _ _ HP.out)
                obtain ⟨ax1, cx1, rfl, _⟩ := hx.1.form
                have HX1 := Lib.hid hx
                clear hx ho hk q0 q1 q2 q3
                have q0 : w5.cell? ⟨p, 0, none⟩ = some (.int .i64 0) := by rw [HP.out.cell]; rfl
                have q1 : w5.cell? ⟨p, 1, none⟩ = some (.int .i64 kk) := by rw [HP.out.cell]; rfl
                have q2 : w5.cell? ⟨p, 2, none⟩ = some (.int .i64 fr) := by rw [HP.out.cell]; rfl
                have q3 : w5.cell? ⟨p, 3, none⟩ = some (.slice ab b.length cb) := by rw [HP.out.cell]; rfl
                go_wp2_with fail
                go_at_call 9
                refine (HO.out.xsend HB.out).mono ?_
                rintro e w6 ⟨x2, rfl, hx, ho, hk⟩
                replace HO := Lib.hid ho
                replace HX1 := Lib.hid (HX1.out.kept hk)
                obtain ⟨ax2, cx2, rfl, _⟩ := hx.1.form
                have HX2 := Lib.hid hx
                clear hx ho hk HP q0 q1 q2 q3
                generalize sendL s b = L at *
                generalize sendS s b = s' at *
                generalize sendE s b = er at *
                -- the comparison: HO (St), HX1, HX2 (both results), the errors one e
                go_wp2_with fail
                refine wp_one [15, 24, 33] [2, 11, 20, 29] [(11, [15]), (20, [24]), (29, [33])] [0, 1, 2, 3, 4, 5, 6, 7, 8, 9, 10, 12, 13, 14, 15, 11, 16, 17, 18, 19, 21, 22, 23, 24, 20, 25, 26, 27, 28, 30, 31, 32, 33, 29, 34, 35] rfl (by kernel_rfl) (fun _ _ _ _ _ h => h) ?_; simp only [List.map_cons, List.map_nil, List.getElem?_toArray, List.getElem?_cons_zero, List.getElem?_cons_succ]
                obtain ⟨wd, hwd⟩ : ∃ W, World.drew w6 = W := ⟨_, rfl⟩
                have hcd : Chg w6 wd nob := by rw [← hwd]; exact (Chg.refl w6 nob).drew
                rw [hwd]
                have HOd := Lib.hid (HO.out.kept hcd)
                have HX1d := Lib.hid (HX1.out.kept (Kp.of hcd))
                have HX2d := Lib.hid (HX2.out.kept (Kp.of hcd))
                clear hcd hwd HO HX1 HX2
                have r3 := HOd.out.x.blk.cell 3
                have r4 := HOd.out.x.blk.cell 4
                have r5 := HOd.out.x.blk.cell 5
                simp only [List.getElem?_toArray, List.getElem?_cons_zero, List.getElem?_cons_succ] at r3 r4 r5
                (repeat (first | (apply can0; (· rfl); (· rfl); (· (intro w'; first | (go_simp; with_reducible rfl) | (go_simp; done))); simp only [Act.put, List.setIfInBounds_toArray, List.set_cons_zero, List.set_cons_succ]) | (apply can1; (· rfl); (· rfl); (· (first | (go_simp; with_reducible rfl) | (go_simp; done))); simp only [Act.put, List.setIfInBounds_toArray, List.set_cons_zero, List.set_cons_succ]) | (apply canN; (· rfl); (· rfl); simp only [Act.put, List.setIfInBounds_toArray, List.set_cons_zero, List.set_cons_succ]) | (apply canN1; (· rfl); (· rfl); simp only [Act.put, List.setIfInBounds_toArray, List.set_cons_zero, List.set_cons_succ]) | (apply can0; (· rfl); (· (go_simp; done)); (· (intro w'; first | (go_simp; with_reducible rfl) | (go_simp; done))); simp only [Act.put, List.setIfInBounds_toArray, List.set_cons_zero, List.set_cons_succ]) | (apply can1; (· rfl); (· (go_simp; done)); (· (first | (go_simp; with_reducible rfl) | (go_simp; done))); simp only [Act.put, List.setIfInBounds_toArray, List.set_cons_zero, List.set_cons_succ]) | (apply canN; (· rfl); (· (go_simp; done)); simp only [Act.put, List.setIfInBounds_toArray, List.set_cons_zero, List.set_cons_succ]) | (apply canN1; (· rfl); (· (go_simp; done)); simp only [Act.put, List.setIfInBounds_toArray, List.set_cons_zero, List.set_cons_succ])))
                refine canW rfl [] rfl (fun K hK => ?_)
                go_simp
                go_at_call 12
                refine (bytes_by HX1d.out.by HX2d.out.by).mono ?_
                rw [decide_eq_true rfl]
                rintro e yy ⟨rfl, rfl⟩
                (refine hK _ _ (fun u hu => by cases hu) ?_; clear hK K; try simp only [Act.put, List.setIfInBounds_toArray, List.set_cons_zero, List.set_cons_succ])
                (repeat (first | (apply can0; (· rfl); (· rfl); (· (intro w'; first | (go_simp; with_reducible rfl) | (go_simp; done))); simp only [Act.put, List.setIfInBounds_toArray, List.set_cons_zero, List.set_cons_succ]) | (apply can1; (· rfl); (· rfl); (· (first | (go_simp; with_reducible rfl) | (go_simp; done))); simp only [Act.put, List.setIfInBounds_toArray, List.set_cons_zero, List.set_cons_succ]) | (apply canN; (· rfl); (· rfl); simp only [Act.put, List.setIfInBounds_toArray, List.set_cons_zero, List.set_cons_succ]) | (apply canN1; (· rfl); (· rfl); simp only [Act.put, List.setIfInBounds_toArray, List.set_cons_zero, List.set_cons_succ]) | (apply can0; (· rfl); (· (go_simp; done)); (· (intro w'; first | (go_simp; with_reducible rfl) | (go_simp; done))); simp only [Act.put, List.setIfInBounds_toArray, List.set_cons_zero, List.set_cons_succ]) | (apply can1; (· rfl); (· (go_simp; done)); (· (first | (go_simp; with_reducible rfl) | (go_simp; done))); simp only [Act.put, List.setIfInBounds_toArray, List.set_cons_zero, List.set_cons_succ]) | (apply canN; (· rfl); (· (go_simp; done)); simp only [Act.put, List.setIfInBounds_toArray, List.set_cons_zero, List.set_cons_succ]) | (apply canN1; (· rfl); (· (go_simp; done)); simp only [Act.put, List.setIfInBounds_toArray, List.set_cons_zero, List.set_cons_succ])))
                refine canW rfl [15] rfl (fun K hK => ?_)
                go_simp
                go_at_call 13
                refine (paddr_any wd ga gwa ua _ HOd.out.a).mono ?_
                rintro e yy ⟨rfl, rfl⟩
                (refine hK _ _ (fun u hu => by (simp only [List.mem_cons, List.not_mem_nil, or_false] at hu); (first | (subst hu; exact reRun_mk rfl (by first | (go_simp; with_reducible rfl) | (go_simp; done)) (holds_at rfl)) | ((repeat' (first | (rcases hu with rfl | hu) | (subst hu))) <;> exact reRun_mk rfl (by first | (go_simp; with_reducible rfl) | (go_simp; done)) (holds_at rfl)))) ?_; clear hK K; try simp only [Act.put, List.setIfInBounds_toArray, List.set_cons_zero, List.set_cons_succ])
                (repeat (first | (apply can0; (· rfl); (· rfl); (· (intro w'; first | (go_simp; with_reducible rfl) | (go_simp; done))); simp only [Act.put, List.setIfInBounds_toArray, List.set_cons_zero, List.set_cons_succ]) | (apply can1; (· rfl); (· rfl); (· (first | (go_simp; with_reducible rfl) | (go_simp; done))); simp only [Act.put, List.setIfInBounds_toArray, List.set_cons_zero, List.set_cons_succ]) | (apply canN; (· rfl); (· rfl); simp only [Act.put, List.setIfInBounds_toArray, List.set_cons_zero, List.set_cons_succ]) | (apply canN1; (· rfl); (· rfl); simp only [Act.put, List.setIfInBounds_toArray, List.set_cons_zero, List.set_cons_succ]) | (apply can0; (· rfl); (· (go_simp; done)); (· (intro w'; first | (go_simp; with_reducible rfl) | (go_simp; done))); simp only [Act.put, List.setIfInBounds_toArray, List.set_cons_zero, List.set_cons_succ]) | (apply can1; (· rfl); (· (go_simp; done)); (· (first | (go_simp; with_reducible rfl) | (go_simp; done))); simp only [Act.put, List.setIfInBounds_toArray, List.set_cons_zero, List.set_cons_succ]) | (apply canN; (· rfl); (· (go_simp; done)); simp only [Act.put, List.setIfInBounds_toArray, List.set_cons_zero, List.set_cons_succ]) | (apply canN1; (· rfl); (· (go_simp; done)); simp only [Act.put, List.setIfInBounds_toArray, List.set_cons_zero, List.set_cons_succ])))
                refine canW rfl [24] rfl (fun K hK => ?_)
                go_simp
                go_at_call 14
                refine (pout_any wd ga gwa ua _ HOd.out.a).mono ?_
                rintro e yy ⟨rfl, rfl⟩
                (refine hK _ _ (fun u hu => by (simp only [List.mem_cons, List.not_mem_nil, or_false] at hu); (first | (subst hu; exact reRun_mk rfl (by first | (go_simp; with_reducible rfl) | (go_simp; done)) (holds_at rfl)) | ((repeat' (first | (rcases hu with rfl | hu) | (subst hu))) <;> exact reRun_mk rfl (by first | (go_simp; with_reducible rfl) | (go_simp; done)) (holds_at rfl)))) ?_; clear hK K; try simp only [Act.put, List.setIfInBounds_toArray, List.set_cons_zero, List.set_cons_succ])
                (repeat (first | (apply can0; (· rfl); (· rfl); (· (intro w'; first | (go_simp; with_reducible rfl) | (go_simp; done))); simp only [Act.put, List.setIfInBounds_toArray, List.set_cons_zero, List.set_cons_succ]) | (apply can1; (· rfl); (· rfl); (· (first | (go_simp; with_reducible rfl) | (go_simp; done))); simp only [Act.put, List.setIfInBounds_toArray, List.set_cons_zero, List.set_cons_succ]) | (apply canN; (· rfl); (· rfl); simp only [Act.put, List.setIfInBounds_toArray, List.set_cons_zero, List.set_cons_succ]) | (apply canN1; (· rfl); (· rfl); simp only [Act.put, List.setIfInBounds_toArray, List.set_cons_zero, List.set_cons_succ]) | (apply can0; (· rfl); (· (go_simp; done)); (· (intro w'; first | (go_simp; with_reducible rfl) | (go_simp; done))); simp only [Act.put, List.setIfInBounds_toArray, List.set_cons_zero, List.set_cons_succ]) | (apply can1; (· rfl); (· (go_simp; done)); (· (first | (go_simp; with_reducible rfl) | (go_simp; done))); simp only [Act.put, List.setIfInBounds_toArray, List.set_cons_zero, List.set_cons_succ]) | (apply canN; (· rfl); (· (go_simp; done)); simp only [Act.put, List.setIfInBounds_toArray, List.set_cons_zero, List.set_cons_succ]) | (apply canN1; (· rfl); (· (go_simp; done)); simp only [Act.put, List.setIfInBounds_toArray, List.set_cons_zero, List.set_cons_succ])))
                refine canW rfl [33] rfl (fun K hK => ?_)
                go_simp
                go_at_call 15
                refine (pin_any wd ga gwa ua _ HOd.out.a).mono ?_
                rintro e yy ⟨rfl, rfl⟩
                (refine hK _ _ (fun u hu => by (simp only [List.mem_cons, List.not_mem_nil, or_false] at hu); (first | (subst hu; exact reRun_mk rfl (by first | (go_simp; with_reducible rfl) | (go_simp; done)) (holds_at rfl)) | ((repeat' (first | (rcases hu with rfl | hu) | (subst hu))) <;> exact reRun_mk rfl (by first | (go_simp; with_reducible rfl) | (go_simp; done)) (holds_at rfl)))) ?_; clear hK K; try simp only [Act.put, List.setIfInBounds_toArray, List.set_cons_zero, List.set_cons_succ])
                (repeat (first | (apply can0; (· rfl); (· rfl); (· (intro w'; first | (go_simp; with_reducible rfl) | (go_simp; done))); simp only [Act.put, List.setIfInBounds_toArray, List.set_cons_zero, List.set_cons_succ]) | (apply can1; (· rfl); (· rfl); (· (first | (go_simp; with_reducible rfl) | (go_simp; done))); simp only [Act.put, List.setIfInBounds_toArray, List.set_cons_zero, List.set_cons_succ]) | (apply canN; (· rfl); (· rfl); simp only [Act.put, List.setIfInBounds_toArray, List.set_cons_zero, List.set_cons_succ]) | (apply canN1; (· rfl); (· rfl); simp only [Act.put, List.setIfInBounds_toArray, List.set_cons_zero, List.set_cons_succ]) | (apply can0; (· rfl); (· (go_simp; done)); (· (intro w'; first | (go_simp; with_reducible rfl) | (go_simp; done))); simp only [Act.put, List.setIfInBounds_toArray, List.set_cons_zero, List.set_cons_succ]) | (apply can1; (· rfl); (· (go_simp; done)); (· (first | (go_simp; with_reducible rfl) | (go_simp; done))); simp only [Act.put, List.setIfInBounds_toArray, List.set_cons_zero, List.set_cons_succ]) | (apply canN; (· rfl); (· (go_simp; done)); simp only [Act.put, List.setIfInBounds_toArray, List.set_cons_zero, List.set_cons_succ]) | (apply canN1; (· rfl); (· (go_simp; done)); simp only [Act.put, List.setIfInBounds_toArray, List.set_cons_zero, List.set_cons_succ])))
                refine canE ?_
                go_wp2
                go_roundw
                case rel => exact ⟨i + 1, _, _, _, _, _, by omega, by omega, by go_num, by first | rfl | simp, HOd⟩
                case measure => simp [intOf]; omega
            · as_aux_lemma =>
                subst k0
                by_cases hkk : 0 ≤ kk ∧ kk < (P.length : Int)
                · obtain ⟨x1, x2⟩ := hkk
                  obtain ⟨k, rfl⟩ : ∃ k : Nat, kk = (k : Int) := ⟨kk.toNat, by omega⟩
                  have hkP : k < P.length := by omega
                  obtain ⟨gp, cp', up, hpe, _, hcp, hby⟩ := HO.out.pt.at (i := k) hkP
                  cases hpe
                  have HPK : Hid ((P.getD k []).length ≤ 100000) := Lib.hid (HO.out.pb _ (by rw [List.getD, List.getElem?_eq_getElem hkP]; exact List.getElem_mem hkP))
                  obtain ⟨d, hd⟩ : ∃ d, P.getD k [] = d := ⟨_, rfl⟩
                  rw [hd] at hby HPK
                  have HBY := Lib.hid hby
                  obtain ⟨au, cu, rfl, _⟩ := hby.form
                  have HDD := Lib.hid hd
                  clear hby hd
                  have q0 : wD.cell? ⟨p, 0, none⟩ = some (.int .i64 1) := by rw [HP.out.cell]; rfl
                  have q1 : wD.cell? ⟨p, 1, none⟩ = some (.int .i64 (k : Int)) := by rw [HP.out.cell]; rfl
                  have q2 : wD.cell? ⟨p, 2, none⟩ = some (.int .i64 fr) := by rw [HP.out.cell]; rfl
                  have q3 : wD.cell? ⟨p, 3, none⟩ = some (.slice ab b.length cb) := by rw [HP.out.cell]; rfl
                  go_wp2_with fail
                  refine wp_one [2, 5, 7] [8] [] [0, 1, 2, 3, 4, 5, 6, 7, 8, 9, 10, 11, 12, 13] rfl (by kernel_rfl) (fun _ _ _ _ _ h => h) ?_; simp only [List.map_cons, List.map_nil, List.getElem?_toArray, List.getElem?_cons_zero, List.getElem?_cons_succ]
                  obtain ⟨vwD, hwe⟩ : ∃ W, World.drew wD = W := ⟨_, rfl⟩
                  have hcd : Chg wD vwD nob := by rw [← hwe]; exact (Chg.refl wD nob).drew
                  rw [hwe]
                  replace HO := Lib.hid (HO.out.kept hcd)
                  replace HP := Lib.hid (HP.out.kept hcd id)
                  replace HBY := Lib.hid (HBY.out.kept hcd)
                  replace hcp := hcd.cell hcp id
                  clear hcd hwe q0 q1 q2 q3
                  have q0 : vwD.cell? ⟨p, 0, none⟩ = some (.int .i64 1) := by rw [HP.out.cell]; rfl
                  have q1 : vwD.cell? ⟨p, 1, none⟩ = some (.int .i64 (k : Int)) := by rw [HP.out.cell]; rfl
                  have q2 : vwD.cell? ⟨p, 2, none⟩ = some (.int .i64 fr) := by rw [HP.out.cell]; rfl
                  have q3 : vwD.cell? ⟨p, 3, none⟩ = some (.slice ab b.length cb) := by rw [HP.out.cell]; rfl
                  (repeat (first | (apply can0; (· rfl); (· rfl); (· (intro w'; first | (go_simp; with_reducible rfl) | (go_simp; done))); simp only [Act.put, List.setIfInBounds_toArray, List.set_cons_zero, List.set_cons_succ]) | (apply can1; (· rfl); (· rfl); (· (first | (go_simp; with_reducible rfl) | (go_simp; done))); simp only [Act.put, List.setIfInBounds_toArray, List.set_cons_zero, List.set_cons_succ]) | (apply canN; (· rfl); (· rfl); simp only [Act.put, List.setIfInBounds_toArray, List.set_cons_zero, List.set_cons_succ]) | (apply canN1; (· rfl); (· rfl); simp only [Act.put, List.setIfInBounds_toArray, List.set_cons_zero, List.set_cons_succ]) | (apply can0; (· rfl); (· (go_simp; done)); (· (intro w'; first | (go_simp; with_reducible rfl) | (go_simp; done))); simp only [Act.put, List.setIfInBounds_toArray, List.set_cons_zero, List.set_cons_succ]) | (apply can1; (· rfl); (· (go_simp; done)); (· (first | (go_simp; with_reducible rfl) | (go_simp; done))); simp only [Act.put, List.setIfInBounds_toArray, List.set_cons_zero, List.set_cons_succ]) | (apply canN; (· rfl); (· (go_simp; done)); simp only [Act.put, List.setIfInBounds_toArray, List.set_cons_zero, List.set_cons_succ]) | (apply canN1; (· rfl); (· (go_simp; done)); simp only [Act.put, List.setIfInBounds_toArray, List.set_cons_zero, List.set_cons_succ])))
                  refine canW rfl [] rfl (fun K hK => ?_)
                  go_simp
                  go_at_call 10
                  refine (HO.out.atake HT.out fr HBY.out HPK.out).mono ?_
                  rintro e w5 ⟨X1, rfl, hx, ho, hk⟩
                  replace HO := Lib.hid ho
                  replace HP := Lib.hid (hk.1 _ _ HP.out)
                  obtain ⟨aX1, cX1, rfl, _⟩ := hx.1.form
                  have HX1 := Lib.hid hx
                  clear hx ho hk q0 q1 q2 q3 hcp HBY
                  (refine hK _ _ (fun u hu => by cases hu) ?_; clear hK K; try simp only [Act.put, List.setIfInBounds_toArray, List.set_cons_zero, List.set_cons_succ])
                  (repeat (first | (apply can0; (· rfl); (· rfl); (· (intro w'; first | (go_simp; with_reducible rfl) | (go_simp; done))); simp only [Act.put, List.setIfInBounds_toArray, List.set_cons_zero, List.set_cons_succ]) | (apply can1; (· rfl); (· rfl); (· (first | (go_simp; with_reducible rfl) | (go_simp; done))); simp only [Act.put, List.setIfInBounds_toArray, List.set_cons_zero, List.set_cons_succ]) | (apply canN; (· rfl); (· rfl); simp only [Act.put, List.setIfInBounds_toArray, List.set_cons_zero, List.set_cons_succ]) | (apply canN1; (· rfl); (· rfl); simp only [Act.put, List.setIfInBounds_toArray, List.set_cons_zero, List.set_cons_succ]) | (apply can0; (· rfl); (· (go_simp; done)); (· (intro w'; first | (go_simp; with_reducible rfl) | (go_simp; done))); simp only [Act.put, List.setIfInBounds_toArray, List.set_cons_zero, List.set_cons_succ]) | (apply can1; (· rfl); (· (go_simp; done)); (· (first | (go_simp; with_reducible rfl) | (go_simp; done))); simp only [Act.put, List.setIfInBounds_toArray, List.set_cons_zero, List.set_cons_succ]) | (apply canN; (· rfl); (· (go_simp; done)); simp only [Act.put, List.setIfInBounds_toArray, List.set_cons_zero, List.set_cons_succ]) | (apply canN1; (· rfl); (· (go_simp; done)); simp only [Act.put, List.setIfInBounds_toArray, List.set_cons_zero, List.set_cons_succ])))
                  refine canE ?_
                  obtain ⟨gp', cp2, up, hpe, _, hcp, hby⟩ := HO.out.pt.at (i := k) hkP
                  cases hpe
                  rw [HDD.out] at hby
                  have HBY := Lib.hid hby
                  obtain ⟨au, cu, rfl, _⟩ := hby.form
                  clear hby
                  have q0 : w5.cell? ⟨p, 0, none⟩ = some (.int .i64 1) := by rw [HP.out.cell]; rfl
                  have q1 : w5.cell? ⟨p, 1, none⟩ = some (.int .i64 (k : Int)) := by rw [HP.out.cell]; rfl
                  have q2 : w5.cell? ⟨p, 2, none⟩ = some (.int .i64 fr) := by rw [HP.out.cell]; rfl
                  have q3 : w5.cell? ⟨p, 3, none⟩ = some (.slice ab b.length cb) := by rw [HP.out.cell]; rfl
                  go_wp2_with fail
                  refine wp_one [2, 5, 7] [8] [] [0, 1, 2, 3, 4, 5, 6, 7, 8, 9, 10, 11, 12, 13] rfl (by kernel_rfl) (fun _ _ _ _ _ h => h) ?_; simp only [List.map_cons, List.map_nil, List.getElem?_toArray, List.getElem?_cons_zero, List.getElem?_cons_succ]
                  obtain ⟨vw5, hwe⟩ : ∃ W, World.drew w5 = W := ⟨_, rfl⟩
                  have hcd : Chg w5 vw5 nob := by rw [← hwe]; exact (Chg.refl w5 nob).drew
                  rw [hwe]
                  replace HO := Lib.hid (HO.out.kept hcd)
                  replace HP := Lib.hid (HP.out.kept hcd id)
                  replace HBY := Lib.hid (HBY.out.kept hcd)
                  replace hcp := hcd.cell hcp id
                  replace HX1 := Lib.hid (HX1.out.kept (Kp.of hcd))
                  clear hcd hwe q0 q1 q2 q3
                  have q0 : vw5.cell? ⟨p, 0, none⟩ = some (.int .i64 1) := by rw [HP.out.cell]; rfl
                  have q1 : vw5.cell? ⟨p, 1, none⟩ = some (.int .i64 (k : Int)) := by rw [HP.out.cell]; rfl
                  have q2 : vw5.cell? ⟨p, 2, none⟩ = some (.int .i64 fr) := by rw [HP.out.cell]; rfl
                  have q3 : vw5.cell? ⟨p, 3, none⟩ = some (.slice ab b.length cb) := by rw [HP.out.cell]; rfl
                  (repeat (first | (apply can0; (· rfl); (· rfl); (· (intro w'; first | (go_simp; with_reducible rfl) | (go_simp; done))); simp only [Act.put, List.setIfInBounds_toArray, List.set_cons_zero, List.set_cons_succ]) | (apply can1; (· rfl); (· rfl); (· (first | (go_simp; with_reducible rfl) | (go_simp; done))); simp only [Act.put, List.setIfInBounds_toArray, List.set_cons_zero, List.set_cons_succ]) | (apply canN; (· rfl); (· rfl); simp only [Act.put, List.setIfInBounds_toArray, List.set_cons_zero, List.set_cons_succ]) | (apply canN1; (· rfl); (· rfl); simp only [Act.put, List.setIfInBounds_toArray, List.set_cons_zero, List.set_cons_succ]) | (apply can0; (· rfl); (· (go_simp; done)); (· (intro w'; first | (go_simp; with_reducible rfl) | (go_simp; done))); simp only [Act.put, List.setIfInBounds_toArray, List.set_cons_zero, List.set_cons_succ]) | (apply can1; (· rfl); (· (go_simp; done)); (· (first | (go_simp; with_reducible rfl) | (go_simp; done))); simp only [Act.put, List.setIfInBounds_toArray, List.set_cons_zero, List.set_cons_succ]) | (apply canN; (· rfl); (· (go_simp; done)); simp only [Act.put, List.setIfInBounds_toArray, List.set_cons_zero, List.set_cons_succ]) | (apply canN1; (· rfl); (· (go_simp; done)); simp only [Act.put, List.setIfInBounds_toArray, List.set_cons_zero, List.set_cons_succ])))
                  refine canW rfl [] rfl (fun K hK => ?_)
                  go_simp
                  go_at_call 11
                  refine (HO.out.xtake fr HBY.out HPK.out).mono ?_
                  rintro e w6 ⟨X2, rfl, hx, ho, hk⟩
                  replace HO := Lib.hid ho
                  replace HP := Lib.hid (hk.1 _ _ HP.out)
                  replace HX1 := Lib.hid (HX1.out.kept hk)
                  obtain ⟨aX2, cX2, rfl, _⟩ := hx.1.form
                  have HX2 := Lib.hid hx
                  clear hx ho hk q0 q1 q2 q3 hcp HBY
                  (refine hK _ _ (fun u hu => by cases hu) ?_; clear hK K; try simp only [Act.put, List.setIfInBounds_toArray, List.set_cons_zero, List.set_cons_succ])
                  (repeat (first | (apply can0; (· rfl); (· rfl); (· (intro w'; first | (go_simp; with_reducible rfl) | (go_simp; done))); simp only [Act.put, List.setIfInBounds_toArray, List.set_cons_zero, List.set_cons_succ]) | (apply can1; (· rfl); (· rfl); (· (first | (go_simp; with_reducible rfl) | (go_simp; done))); simp only [Act.put, List.setIfInBounds_toArray, List.set_cons_zero, List.set_cons_succ]) | (apply canN; (· rfl); (· rfl); simp only [Act.put, List.setIfInBounds_toArray, List.set_cons_zero, List.set_cons_succ]) | (apply canN1; (· rfl); (· rfl); simp only [Act.put, List.setIfInBounds_toArray, List.set_cons_zero, List.set_cons_succ]) | (apply can0; (· rfl); (· (go_simp; done)); (· (intro w'; first | (go_simp; with_reducible rfl) | (go_simp; done))); simp only [Act.put, List.setIfInBounds_toArray, List.set_cons_zero, List.set_cons_succ]) | (apply can1; (· rfl); (· (go_simp; done)); (· (first | (go_simp; with_reducible rfl) | (go_simp; done))); simp only [Act.put, List.setIfInBounds_toArray, List.set_cons_zero, List.set_cons_succ]) | (apply canN; (· rfl); (· (go_simp; done)); simp only [Act.put, List.setIfInBounds_toArray, List.set_cons_zero, List.set_cons_succ]) | (apply canN1; (· rfl); (· (go_simp; done)); simp only [Act.put, List.setIfInBounds_toArray, List.set_cons_zero, List.set_cons_succ])))
                  refine canE ?_
                  generalize takeX s fr d = T at *
                  obtain ⟨s', L, er⟩ := T
                  simp only at HX1 HX2 HO ⊢
                  -- the comparison: HO (St), HX1, HX2 (both results), the errors one e
                  go_wp2_with fail
                  refine wp_one [15, 24, 33] [2, 11, 20, 29] [(11, [15]), (20, [24]), (29, [33])] [0, 1, 2, 3, 4, 5, 6, 7, 8, 9, 10, 12, 13, 14, 15, 11, 16, 17, 18, 19, 21, 22, 23, 24, 20, 25, 26, 27, 28, 30, 31, 32, 33, 29, 34, 35] rfl (by kernel_rfl) (fun _ _ _ _ _ h => h) ?_; simp only [List.map_cons, List.map_nil, List.getElem?_toArray, List.getElem?_cons_zero, List.getElem?_cons_succ]
                  obtain ⟨wd, hwd⟩ : ∃ W, World.drew w6 = W := ⟨_, rfl⟩
                  have hcd : Chg w6 wd nob := by rw [← hwd]; exact (Chg.refl w6 nob).drew
                  rw [hwd]
                  have HOd := Lib.hid (HO.out.kept hcd)
                  have HX1d := Lib.hid (HX1.out.kept (Kp.of hcd))
                  have HX2d := Lib.hid (HX2.out.kept (Kp.of hcd))
                  clear hcd hwd HO HX1 HX2
                  have r3 := HOd.out.x.blk.cell 3
                  have r4 := HOd.out.x.blk.cell 4
                  have r5 := HOd.out.x.blk.cell 5
                  simp only [List.getElem?_toArray, List.getElem?_cons_zero, List.getElem?_cons_succ] at r3 r4 r5
                  (repeat (first | (apply can0; (· rfl); (· rfl); (· (intro w'; first | (go_simp; with_reducible rfl) | (go_simp; done))); simp only [Act.put, List.setIfInBounds_toArray, List.set_cons_zero, List.set_cons_succ]) | (apply can1; (· rfl); (· rfl); (· (first | (go_simp; with_reducible rfl) | (go_simp; done))); simp only [Act.put, List.setIfInBounds_toArray, List.set_cons_zero, List.set_cons_succ]) | (apply canN; (· rfl); (· rfl); simp only [Act.put, List.setIfInBounds_toArray, List.set_cons_zero, List.set_cons_succ]) | (apply canN1; (· rfl); (· rfl); simp only [Act.put, List.setIfInBounds_toArray, List.set_cons_zero, List.set_cons_succ]) | (apply can0; (· rfl); (· (go_simp; done)); (· (intro w'; first | (go_simp; with_reducible rfl) | (go_simp; done))); simp only [Act.put, List.setIfInBounds_toArray, List.set_cons_zero, List.set_cons_succ]) | (apply can1; (· rfl); (· (go_simp; done)); (· (first | (go_simp; with_reducible rfl) | (go_simp; done))); simp only [Act.put, List.setIfInBounds_toArray, List.set_cons_zero, List.set_cons_succ]) | (apply canN; (· rfl); (· (go_simp; done)); simp only [Act.put, List.setIfInBounds_toArray, List.set_cons_zero, List.set_cons_succ]) | (apply canN1; (· rfl); (· (go_simp; done)); simp only [Act.put, List.setIfInBounds_toArray, List.set_cons_zero, List.set_cons_succ])))
                  refine canW rfl [] rfl (fun K hK => ?_)
                  go_simp
                  go_at_call 12
                  refine (bytes_by HX1d.out.by HX2d.out.by).mono ?_
                  rw [decide_eq_true rfl]
                  rintro e yy ⟨rfl, rfl⟩
                  (refine hK _ _ (fun u hu => by cases hu) ?_; clear hK K; try simp only [Act.put, List.setIfInBounds_toArray, List.set_cons_zero, List.set_cons_succ])
                  (repeat (first | (apply can0; (· rfl); (· rfl); (· (intro w'; first | (go_simp; with_reducible rfl) | (go_simp; done))); simp only [Act.put, List.setIfInBounds_toArray, List.set_cons_zero, List.set_cons_succ]) | (apply can1; (· rfl); (· rfl); (· (first | (go_simp; with_reducible rfl) | (go_simp; done))); simp only [Act.put, List.setIfInBounds_toArray, List.set_cons_zero, List.set_cons_succ]) | (apply canN; (· rfl); (· rfl); simp only [Act.put, List.setIfInBounds_toArray, List.set_cons_zero, List.set_cons_succ]) | (apply canN1; (· rfl); (· rfl); simp only [Act.put, List.setIfInBounds_toArray, List.set_cons_zero, List.set_cons_succ]) | (apply can0; (· rfl); (· (go_simp; done)); (· (intro w'; first | (go_simp; with_reducible rfl) | (go_simp; done))); simp only [Act.put, List.setIfInBounds_toArray, List.set_cons_zero, List.set_cons_succ]) | (apply can1; (· rfl); (· (go_simp; done)); (· (first | (go_simp; with_reducible rfl) | (go_simp; done))); simp only [Act.put, List.setIfInBounds_toArray, List.set_cons_zero, List.set_cons_succ]) | (apply canN; (· rfl); (· (go_simp; done)); simp only [Act.put, List.setIfInBounds_toArray, List.set_cons_zero, List.set_cons_succ]) | (apply canN1; (· rfl); (· (go_simp; done)); simp only [Act.put, List.setIfInBounds_toArray, List.set_cons_zero, List.set_cons_succ])))
                  refine canW rfl [15] rfl (fun K hK => ?_)
                  go_simp
                  go_at_call 13
                  refine (paddr_any wd ga gwa ua _ HOd.out.a).mono ?_
                  rintro e yy ⟨rfl, rfl⟩
                  (refine hK _ _ (fun u hu => by (simp only [List.mem_cons, List.not_mem_nil, or_false] at hu); (first | (subst hu; exact reRun_mk rfl (by first | (go_simp; with_reducible rfl) | (go_simp; done)) (holds_at rfl)) | ((repeat' (first | (rcases hu with rfl | hu) | (subst hu))) <;> exact reRun_mk rfl (by first | (go_simp; with_reducible rfl) | (go_simp; done)) (holds_at rfl)))) ?_; clear hK K; try simp only [Act.put, List.setIfInBounds_toArray, List.set_cons_zero, List.set_cons_succ])
                  (repeat (first | (apply can0; (· rfl); (· rfl); (· (intro w'; first | (go_simp; with_reducible rfl) | (go_simp; done))); simp only [Act.put, List.setIfInBounds_toArray, List.set_cons_zero, List.set_cons_succ]) | (apply can1; (· rfl); (· rfl); (· (first | (go_simp; with_reducible rfl) | (go_simp; done))); simp only [Act.put, List.setIfInBounds_toArray, List.set_cons_zero, List.set_cons_succ]) | (apply canN; (· rfl); (· rfl); simp only [Act.put, List.setIfInBounds_toArray, List.set_cons_zero, List.set_cons_succ]) | (apply canN1; (· rfl); (· rfl); simp only [Act.put, List.setIfInBounds_toArray, List.set_cons_zero, List.set_cons_succ]) | (apply can0; (· rfl); (· (go_simp; done)); (· (intro w'; first | (go_simp; with_reducible rfl) | (go_simp; done))); simp only [Act.put, List.setIfInBounds_toArray, List.set_cons_zero, List.set_cons_succ]) | (apply can1; (· rfl); (· (go_simp; done)); (· (first | (go_simp; with_reducible rfl) | (go_simp; done))); simp only [Act.put, List.setIfInBounds_toArray, List.set_cons_zero, List.set_cons_succ]) | (apply canN; (· rfl); (· (go_simp; done)); simp only [Act.put, List.setIfInBounds_toArray, List.set_cons_zero, List.set_cons_succ]) | (apply canN1; (· rfl); (· (go_simp; done)); simp only [Act.put, List.setIfInBounds_toArray, List.set_cons_zero, List.set_cons_succ])))
                  refine canW rfl [24] rfl (fun K hK => ?_)
                  go_simp
                  go_at_call 14
                  refine (pout_any wd ga gwa ua _ HOd.out.a).mono ?_
                  rintro e yy ⟨rfl, rfl⟩
                  (refine hK _ _ (fun u hu => by (simp only [List.mem_cons, List.not_mem_nil, or_false] at hu); (first | (subst hu; exact reRun_mk rfl (by first | (go_simp; with_reducible rfl) | (go_simp; done)) (holds_at rfl)) | ((repeat' (first | (rcases hu with rfl | hu) | (subst hu))) <;> exact reRun_mk rfl (by first | (go_simp; with_reducible rfl) | (go_simp; done)) (holds_at rfl)))) ?_; clear hK K; try simp only [Act.put, List.setIfInBounds_toArray, List.set_cons_zero, List.set_cons_succ])
                  (repeat (first | (apply can0; (· rfl); (· rfl); (· (intro w'; first | (go_simp; with_reducible rfl) | (go_simp; done))); simp only [Act.put, List.setIfInBounds_toArray, List.set_cons_zero, List.set_cons_succ]) | (apply can1; (· rfl); (· rfl); (· (first | (go_simp; with_reducible rfl) | (go_simp; done))); simp only [Act.put, List.setIfInBounds_toArray, List.set_cons_zero, List.set_cons_succ]) | (apply canN; (· rfl); (· rfl); simp only [Act.put, List.setIfInBounds_toArray, List.set_cons_zero, List.set_cons_succ]) | (apply canN1; (· rfl); (· rfl); simp only [Act.put, List.setIfInBounds_toArray, List.set_cons_zero, List.set_cons_succ]) | (apply can0; (· rfl); (· (go_simp; done)); (· (intro w'; first | (go_simp; with_reducible rfl) | (go_simp; done))); simp only [Act.put, List.setIfInBounds_toArray, List.set_cons_zero, List.set_cons_succ]) | (apply can1; (· rfl); (· (go_simp; done)); (· (first | (go_simp; with_reducible rfl) | (go_simp; done))); simp only [Act.put, List.setIfInBounds_toArray, List.set_cons_zero, List.set_cons_succ]) | (apply canN; (· rfl); (· (go_simp; done)); simp only [Act.put, List.setIfInBounds_toArray, List.set_cons_zero, List.set_cons_succ]) | (apply canN1; (· rfl); (· (go_simp; done)); simp only [Act.put, List.setIfInBounds_toArray, List.set_cons_zero, List.set_cons_succ])))
                  refine canW rfl [33] rfl (fun K hK => ?_)
                  go_simp
                  go_at_call 15
                  refine (pin_any wd ga gwa ua _ HOd.out.a).mono ?_
                  rintro e yy ⟨rfl, rfl⟩
                  (refine hK _ _ (fun u hu => by (simp only [List.mem_cons, List.not_mem_nil, or_false] at hu); (first | (subst hu; exact reRun_mk rfl (by first | (go_simp; with_reducible rfl) | (go_simp; done)) (holds_at rfl)) | ((repeat' (first | (rcases hu with rfl | hu) | (subst hu))) <;> exact reRun_mk rfl (by first | (go_simp; with_reducible rfl) | (go_simp; done)) (holds_at rfl)))) ?_; clear hK K; try simp only [Act.put, List.setIfInBounds_toArray, List.set_cons_zero, List.set_cons_succ])
                  (repeat (first | (apply can0; (· rfl); (· rfl); (· (intro w'; first | (go_simp; with_reducible rfl) | (go_simp; done))); simp only [Act.put, List.setIfInBounds_toArray, List.set_cons_zero, List.set_cons_succ]) | (apply can1; (· rfl); (· rfl); (· (first | (go_simp; with_reducible rfl) | (go_simp; done))); simp only [Act.put, List.setIfInBounds_toArray, List.set_cons_zero, List.set_cons_succ]) | (apply canN; (· rfl); (· rfl); simp only [Act.put, List.setIfInBounds_toArray, List.set_cons_zero, List.set_cons_succ]) | (apply canN1; (· rfl); (· rfl); simp only [Act.put, List.setIfInBounds_toArray, List.set_cons_zero, List.set_cons_succ]) | (apply can0; (· rfl); (· (go_simp; done)); (· (intro w'; first | (go_simp; with_reducible rfl) | (go_simp; done))); simp only [Act.put, List.setIfInBounds_toArray, List.set_cons_zero, List.set_cons_succ]) | (apply can1; (· rfl); (· (go_simp; done)); (· (first | (go_simp; with_reducible rfl) | (go_simp; done))); simp only [Act.put, List.setIfInBounds_toArray, List.set_cons_zero, List.set_cons_succ]) | (apply canN; (· rfl); (· (go_simp; done)); simp only [Act.put, List.setIfInBounds_toArray, List.set_cons_zero, List.set_cons_succ]) | (apply canN1; (· rfl); (· (go_simp; done)); simp only [Act.put, List.setIfInBounds_toArray, List.set_cons_zero, List.set_cons_succ])))
                  refine canE ?_
                  go_wp2
                  go_roundw
                  case rel => exact ⟨i + 1, _, _, _, _, _, by omega, by omega, by go_num, by first | rfl | simp, HOd⟩
                  case measure => simp [intOf]; omega
                · have hko : kk < 0 ∨ (0 ≤ kk ∧ (P.length : Int) ≤ kk) := by omega
                  have q0 : wD.cell? ⟨p, 0, none⟩ = some (.int .i64 1) := by rw [HP.out.cell]; rfl
                  have q1 : wD.cell? ⟨p, 1, none⟩ = some (.int .i64 kk) := by rw [HP.out.cell]; rfl
                  have q2 : wD.cell? ⟨p, 2, none⟩ = some (.int .i64 fr) := by rw [HP.out.cell]; rfl
                  have q3 : wD.cell? ⟨p, 3, none⟩ = some (.slice ab b.length cb) := by rw [HP.out.cell]; rfl
                  clear HB
                  rcases hko with hk1 | ⟨hk1, hk2⟩
                  all_goals (
                    go_wp2
                    go_roundw
                    case rel => exact ⟨i + 1, s, sy, P, _, _, by omega, by omega, by go_num, rfl, HO⟩
                    case measure => simp [intOf]; omega)
            · as_aux_lemma =>
                subst k0
                have q0 : wD.cell? ⟨p, 0, none⟩ = some (.int .i64 2) := by rw [HP.out.cell]; rfl
                have q1 : wD.cell? ⟨p, 1, none⟩ = some (.int .i64 kk) := by rw [HP.out.cell]; rfl
                have q2 : wD.cell? ⟨p, 2, none⟩ = some (.int .i64 fr) := by rw [HP.out.cell]; rfl
                have q3 : wD.cell? ⟨p, 3, none⟩ = some (.slice ab b.length cb) := by rw [HP.out.cell]; rfl
                go_wp2_with fail
                go_at_call 10
                refine (HO.out.atake HT.out fr (HB.out.kept HO.out.chg) (by have := HBL.out; omega)).mono ?_
                rintro e w5 ⟨x1, rfl, hx, ho, hk⟩
                replace HO := Lib.hid ho
                replace HP := Lib.hid (hk.1 _ _ HP.out)
                obtain ⟨ax1, cx1, rfl, _⟩ := hx.1.form
                have HX1 := Lib.hid hx
                clear hx ho hk q0 q1 q2 q3
                have q0 : w5.cell? ⟨p, 0, none⟩ = some (.int .i64 2) := by rw [HP.out.cell]; rfl
                have q1 : w5.cell? ⟨p, 1, none⟩ = some (.int .i64 kk) := by rw [HP.out.cell]; rfl
                have q2 : w5.cell? ⟨p, 2, none⟩ = some (.int .i64 fr) := by rw [HP.out.cell]; rfl
                have q3 : w5.cell? ⟨p, 3, none⟩ = some (.slice ab b.length cb) := by rw [HP.out.cell]; rfl
                go_wp2_with fail
                go_at_call 11
                refine (HO.out.xtake fr (HB.out.kept HO.out.chg) (by have := HBL.out; omega)).mono ?_
                rintro e w6 ⟨x2, rfl, hx, ho, hk⟩
                replace HO := Lib.hid ho
                replace HX1 := Lib.hid (HX1.out.kept hk)
                obtain ⟨ax2, cx2, rfl, _⟩ := hx.1.form
                have HX2 := Lib.hid hx
                clear hx ho hk HP q0 q1 q2 q3
                generalize takeX s fr b = T at *
                obtain ⟨s', L, er⟩ := T
                simp only at HX1 HX2 HO ⊢
                -- the comparison: HO (St), HX1, HX2 (both results), the errors one e
                go_wp2_with fail
                refine wp_one [15, 24, 33] [2, 11, 20, 29] [(11, [15]), (20, [24]), (29, [33])] [0, 1, 2, 3, 4, 5, 6, 7, 8, 9, 10, 12, 13, 14, 15, 11, 16, 17, 18, 19, 21, 22, 23, 24, 20, 25, 26, 27, 28, 30, 31, 32, 33, 29, 34, 35] rfl (by kernel_rfl) (fun _ _ _ _ _ h => h) ?_; simp only [List.map_cons, List.map_nil, List.getElem?_toArray, List.getElem?_cons_zero, List.getElem?_cons_succ]
                obtain ⟨wd, hwd⟩ : ∃ W, World.drew w6 = W := ⟨_, rfl⟩
                have hcd : Chg w6 wd nob := by rw [← hwd]; exact (Chg.refl w6 nob).drew
                rw [hwd]
                have HOd := Lib.hid (HO.out.kept hcd)
                have HX1d := Lib.hid (HX1.out.kept (Kp.of hcd))
                have HX2d := Lib.hid (HX2.out.kept (Kp.of hcd))
                clear hcd hwd HO HX1 HX2
                have r3 := HOd.out.x.blk.cell 3
                have r4 := HOd.out.x.blk.cell 4
                have r5 := HOd.out.x.blk.cell 5
                simp only [List.getElem?_toArray, List.getElem?_cons_zero, List.getElem?_cons_succ] at r3 r4 r5
                (repeat (first | (apply can0; (· rfl); (· rfl); (· (intro w'; first | (go_simp; with_reducible rfl) | (go_simp; done))); simp only [Act.put, List.setIfInBounds_toArray, List.set_cons_zero, List.set_cons_succ]) | (apply can1; (· rfl); (· rfl); (· (first | (go_simp; with_reducible rfl) | (go_simp; done))); simp only [Act.put, List.setIfInBounds_toArray, List.set_cons_zero, List.set_cons_succ]) | (apply canN; (· rfl); (· rfl); simp only [Act.put, List.setIfInBounds_toArray, List.set_cons_zero, List.set_cons_succ]) | (apply canN1; (· rfl); (· rfl); simp only [Act.put, List.setIfInBounds_toArray, List.set_cons_zero, List.set_cons_succ]) | (apply can0; (· rfl); (· (go_simp; done)); (· (intro w'; first | (go_simp; with_reducible rfl) | (go_simp; done))); simp only [Act.put, List.setIfInBounds_toArray, List.set_cons_zero, List.set_cons_succ]) | (apply can1; (· rfl); (· (go_simp; done)); (· (first | (go_simp; with_reducible rfl) | (go_simp; done))); simp only [Act.put, List.setIfInBounds_toArray, List.set_cons_zero, List.set_cons_succ]) | (apply canN; (· rfl); (· (go_simp; done)); simp only [Act.put, List.setIfInBounds_toArray, List.set_cons_zero, List.set_cons_succ]) | (apply canN1; (· rfl); (· (go_simp; done)); simp only [Act.put, List.setIfInBounds_toArray, List.set_cons_zero, List.set_cons_succ])))
                refine canW rfl [] rfl (fun K hK => ?_)
                go_simp
                go_at_call 12
                refine (bytes_by HX1d.out.by HX2d.out.by).mono ?_
                rw [decide_eq_true rfl]
                rintro e yy ⟨rfl, rfl⟩
                (refine hK _ _ (fun u hu => by cases hu) ?_; clear hK K; try simp only [Act.put, List.setIfInBounds_toArray, List.set_cons_zero, List.set_cons_succ])
                (repeat (first | (apply can0; (· rfl); (· rfl); (· (intro w'; first | (go_simp; with_reducible rfl) | (go_simp; done))); simp only [Act.put, List.setIfInBounds_toArray, List.set_cons_zero, List.set_cons_succ]) | (apply can1; (· rfl); (· rfl); (· (first | (go_simp; with_reducible rfl) | (go_simp; done))); simp only [Act.put, List.setIfInBounds_toArray, List.set_cons_zero, List.set_cons_succ]) | (apply canN; (· rfl); (· rfl); simp only [Act.put, List.setIfInBounds_toArray, List.set_cons_zero, List.set_cons_succ]) | (apply canN1; (· rfl); (· rfl); simp only [Act.put, List.setIfInBounds_toArray, List.set_cons_zero, List.set_cons_succ]) | (apply can0; (· rfl); (· (go_simp; done)); (· (intro w'; first | (go_simp; with_reducible rfl) | (go_simp; done))); simp only [Act.put, List.setIfInBounds_toArray, List.set_cons_zero, List.set_cons_succ]) | (apply can1; (· rfl); (· (go_simp; done)); (· (first | (go_simp; with_reducible rfl) | (go_simp; done))); simp only [Act.put, List.setIfInBounds_toArray, List.set_cons_zero, List.set_cons_succ]) | (apply canN; (· rfl); (· (go_simp; done)); simp only [Act.put, List.setIfInBounds_toArray, List.set_cons_zero, List.set_cons_succ]) | (apply canN1; (· rfl); (· (go_simp; done)); simp only [Act.put, List.setIfInBounds_toArray, List.set_cons_zero, List.set_cons_succ])))
                refine canW rfl [15] rfl (fun K hK => ?_)
                go_simp
                go_at_call 13
                refine (paddr_any wd ga gwa ua _ HOd.out.a).mono ?_
                rintro e yy ⟨rfl, rfl⟩
                (refine hK _ _ (fun u hu => by (simp only [List.mem_cons, List.not_mem_nil, or_false] at hu); (first | (subst hu; exact reRun_mk rfl (by first | (go_simp; with_reducible rfl) | (go_simp; done)) (holds_at rfl)) | ((repeat' (first | (rcases hu with rfl | hu) | (subst hu))) <;> exact reRun_mk rfl (by first | (go_simp; with_reducible rfl) | (go_simp; done)) (holds_at rfl)))) ?_; clear hK K; try simp only [Act.put, List.setIfInBounds_toArray, List.set_cons_zero, List.set_cons_succ])
                (repeat (first | (apply can0; (· rfl); (· rfl); (· (intro w'; first | (go_simp; with_reducible rfl) | (go_simp; done))); simp only [Act.put, List.setIfInBounds_toArray, List.set_cons_zero, List.set_cons_succ]) | (apply can1; (· rfl); (· rfl); (· (first | (go_simp; with_reducible rfl) | (go_simp; done))); simp only [Act.put, List.setIfInBounds_toArray, List.set_cons_zero, List.set_cons_succ]) | (apply canN; (· rfl); (· rfl); simp only [Act.put, List.setIfInBounds_toArray, List.set_cons_zero, List.set_cons_succ]) | (apply canN1; (· rfl); (· rfl); simp only [Act.put, List.setIfInBounds_toArray, List.set_cons_zero, List.set_cons_succ]) | (apply can0; (· rfl); (· (go_simp; done)); (· (intro w'; first | (go_simp; with_reducible rfl) | (go_simp; done))); simp only [Act.put, List.setIfInBounds_toArray, List.set_cons_zero, List.set_cons_succ]) | (apply can1; (· rfl); (· (go_simp; done)); (· (first | (go_simp; with_reducible rfl) | (go_simp; done))); simp only [Act.put, List.setIfInBounds_toArray, List.set_cons_zero, List.set_cons_succ]) | (apply canN; (· rfl); (· (go_simp; done)); simp only [Act.put, List.setIfInBounds_toArray, List.set_cons_zero, List.set_cons_succ]) | (apply canN1; (· rfl); (· (go_simp; done)); simp only [Act.put, List.setIfInBounds_toArray, List.set_cons_zero, List.set_cons_succ])))
                refine canW rfl [24] rfl (fun K hK => ?_)
                go_simp
                go_at_call 14
                refine (pout_any wd ga gwa ua _ HOd.out.a).mono ?_
                rintro e yy ⟨rfl, rfl⟩
                (refine hK _ _ (fun u hu => by (simp only [List.mem_cons, List.not_mem_nil, or_false] at hu); (first | (subst hu; exact reRun_mk rfl (by first | (go_simp; with_reducible rfl) | (go_simp; done)) (holds_at rfl)) | ((repeat' (first | (rcases hu with rfl | hu) | (subst hu))) <;> exact reRun_mk rfl (by first | (go_simp; with_reducible rfl) | (go_simp; done)) (holds_at rfl)))) ?_; clear hK K; try simp only [Act.put, List.setIfInBounds_toArray, List.set_cons_zero, List.set_cons_succ])
                (repeat (first | (apply can0; (· rfl); (· rfl); (· (intro w'; first | (go_simp; with_reducible rfl) | (go_simp; done))); simp only [Act.put, List.setIfInBounds_toArray, List.set_cons_zero, List.set_cons_succ]) | (apply can1; (· rfl); (· rfl); (· (first | (go_simp; with_reducible rfl) | (go_simp; done))); simp only [Act.put, List.setIfInBounds_toArray, List.set_cons_zero, List.set_cons_succ]) | (apply canN; (· rfl); (· rfl); simp only [Act.put, List.setIfInBounds_toArray, List.set_cons_zero, List.set_cons_succ]) | (apply canN1; (· rfl); (· rfl); simp only [Act.put, List.setIfInBounds_toArray, List.set_cons_zero, List.set_cons_succ]) | (apply can0; (· rfl); (· (go_simp; done)); (· (intro w'; first | (go_simp; with_reducible rfl) | (go_simp; done))); simp only [Act.put, List.setIfInBounds_toArray, List.set_cons_zero, List.set_cons_succ]) | (apply can1; (· rfl); (· (go_simp; done)); (· (first | (go_simp; with_reducible rfl) | (go_simp; done))); simp only [Act.put, List.setIfInBounds_toArray, List.set_cons_zero, List.set_cons_succ]) | (apply canN; (· rfl); (· (go_simp; done)); simp only [Act.put, List.setIfInBounds_toArray, List.set_cons_zero, List.set_cons_succ]) | (apply canN1; (· rfl); (· (go_simp; done)); simp only [Act.put, List.setIfInBounds_toArray, List.set_cons_zero, List.set_cons_succ])))
                refine canW rfl [33] rfl (fun K hK => ?_)
                go_simp
                go_at_call 15
                refine (pin_any wd ga gwa ua _ HOd.out.a).mono ?_
                rintro e yy ⟨rfl, rfl⟩
                (refine hK _ _ (fun u hu => by (simp only [List.mem_cons, List.not_mem_nil, or_false] at hu); (first | (subst hu; exact reRun_mk rfl (by first | (go_simp; with_reducible rfl) | (go_simp; done)) (holds_at rfl)) | ((repeat' (first | (rcases hu with rfl | hu) | (subst hu))) <;> exact reRun_mk rfl (by first | (go_simp; with_reducible rfl) | (go_simp; done)) (holds_at rfl)))) ?_; clear hK K; try simp only [Act.put, List.setIfInBounds_toArray, List.set_cons_zero, List.set_cons_succ])
                (repeat (first | (apply can0; (· rfl); (· rfl); (· (intro w'; first | (go_simp; with_reducible rfl) | (go_simp; done))); simp only [Act.put, List.setIfInBounds_toArray, List.set_cons_zero, List.set_cons_succ]) | (apply can1; (· rfl); (· rfl); (· (first | (go_simp; with_reducible rfl) | (go_simp; done))); simp only [Act.put, List.setIfInBounds_toArray, List.set_cons_zero, List.set_cons_succ]) | (apply canN; (· rfl); (· rfl); simp only [Act.put, List.setIfInBounds_toArray, List.set_cons_zero, List.set_cons_succ]) | (apply canN1; (· rfl); (· rfl); simp only [Act.put, List.setIfInBounds_toArray, List.set_cons_zero, List.set_cons_succ]) | (apply can0; (· rfl); (· (go_simp; done)); (· (intro w'; first | (go_simp; with_reducible rfl) | (go_simp; done))); simp only [Act.put, List.setIfInBounds_toArray, List.set_cons_zero, List.set_cons_succ]) | (apply can1; (· rfl); (· (go_simp; done)); (· (first | (go_simp; with_reducible rfl) | (go_simp; done))); simp only [Act.put, List.setIfInBounds_toArray, List.set_cons_zero, List.set_cons_succ]) | (apply canN; (· rfl); (· (go_simp; done)); simp only [Act.put, List.setIfInBounds_toArray, List.set_cons_zero, List.set_cons_succ]) | (apply canN1; (· rfl); (· (go_simp; done)); simp only [Act.put, List.setIfInBounds_toArray, List.set_cons_zero, List.set_cons_succ])))
                refine canE ?_
                go_wp2
                go_roundw
                case rel => exact ⟨i + 1, _, _, _, _, _, by omega, by omega, by go_num, by first | rfl | simp, HOd⟩
                case measure => simp [intOf]; omega
            · as_aux_lemma =>
                subst k0
                have q0 : wD.cell? ⟨p, 0, none⟩ = some (.int .i64 3) := by rw [HP.out.cell]; rfl
                have q1 : wD.cell? ⟨p, 1, none⟩ = some (.int .i64 kk) := by rw [HP.out.cell]; rfl
                have q2 : wD.cell? ⟨p, 2, none⟩ = some (.int .i64 fr) := by rw [HP.out.cell]; rfl
                have q3 : wD.cell? ⟨p, 3, none⟩ = some (.slice ab b.length cb) := by rw [HP.out.cell]; rfl
                go_wp2_with fail
                go_at_call 9
                refine (HO.out.ysend HB.out).mono ?_
                rintro e w5 ⟨x1, rfl, hx, ho, hk⟩
                replace HO := Lib.hid ho
                obtain ⟨ax1, cx1, rfl, _⟩ := hx.1.form
                have HX := Lib.hid hx
                have hll : (sendL sy b).length ≤ 1226 := sendL_len
                have HLL := Lib.hid hll
                clear hx ho hk HP q0 q1 q2 q3 hll
                generalize sendL sy b = L at *
                generalize sendS sy b = sy' at *
                generalize sendE sy b = er at *
                by_cases her : er = 0
                · subst her
                  have HX2 : Hid True := Lib.hid trivial
                  go_wp2_with (at_builtin; refine wpList_pt rfl (.tmp 169) (.tmp 171) rfl HO.out.pt (.slice ax1 L.length cx1) L HX.out.1 HX.out.2 (by omega) rfl rfl ?_)
                  intro pv2 w7 hp2 hc2 _ hrow
                  replace HO := Lib.hid (HO.out.push hp2 hc2 hrow (by have := HLL.out; omega))
                  obtain ⟨ap2, cp2, rfl, _⟩ := hp2.form
                  clear hp2 hc2 hrow HX HX2
                  have HX1 : Hid (Out w7 (.slice none 0 0) []) := Lib.hid (Out.nil _)
                  have HX2 : Hid (Out w7 (.slice none 0 0) []) := Lib.hid (Out.nil _)
                  -- the comparison: HO (St), HX1, HX2 (both results), the errors one e
                  go_wp2_with fail
                  refine wp_one [15, 24, 33] [2, 11, 20, 29] [(11, [15]), (20, [24]), (29, [33])] [0, 1, 2, 3, 4, 5, 6, 7, 8, 9, 10, 12, 13, 14, 15, 11, 16, 17, 18, 19, 21, 22, 23, 24, 20, 25, 26, 27, 28, 30, 31, 32, 33, 29, 34, 35] rfl (by kernel_rfl) (fun _ _ _ _ _ h => h) ?_; simp only [List.map_cons, List.map_nil, List.getElem?_toArray, List.getElem?_cons_zero, List.getElem?_cons_succ]
                  obtain ⟨wd, hwd⟩ : ∃ W, World.drew w7 = W := ⟨_, rfl⟩
                  have hcd : Chg w7 wd nob := by rw [← hwd]; exact (Chg.refl w7 nob).drew
                  rw [hwd]
                  have HOd := Lib.hid (HO.out.kept hcd)
                  have HX1d := Lib.hid (HX1.out.kept (Kp.of hcd))
                  have HX2d := Lib.hid (HX2.out.kept (Kp.of hcd))
                  clear hcd hwd HO HX1 HX2
                  have r3 := HOd.out.x.blk.cell 3
                  have r4 := HOd.out.x.blk.cell 4
                  have r5 := HOd.out.x.blk.cell 5
                  simp only [List.getElem?_toArray, List.getElem?_cons_zero, List.getElem?_cons_succ] at r3 r4 r5
                  (repeat (first | (apply can0; (· rfl); (· rfl); (· (intro w'; first | (go_simp; with_reducible rfl) | (go_simp; done))); simp only [Act.put, List.setIfInBounds_toArray, List.set_cons_zero, List.set_cons_succ]) | (apply can1; (· rfl); (· rfl); (· (first | (go_simp; with_reducible rfl) | (go_simp; done))); simp only [Act.put, List.setIfInBounds_toArray, List.set_cons_zero, List.set_cons_succ]) | (apply canN; (· rfl); (· rfl); simp only [Act.put, List.setIfInBounds_toArray, List.set_cons_zero, List.set_cons_succ]) | (apply canN1; (· rfl); (· rfl); simp only [Act.put, List.setIfInBounds_toArray, List.set_cons_zero, List.set_cons_succ]) | (apply can0; (· rfl); (· (go_simp; done)); (· (intro w'; first | (go_simp; with_reducible rfl) | (go_simp; done))); simp only [Act.put, List.setIfInBounds_toArray, List.set_cons_zero, List.set_cons_succ]) | (apply can1; (· rfl); (· (go_simp; done)); (· (first | (go_simp; with_reducible rfl) | (go_simp; done))); simp only [Act.put, List.setIfInBounds_toArray, List.set_cons_zero, List.set_cons_succ]) | (apply canN; (· rfl); (· (go_simp; done)); simp only [Act.put, List.setIfInBounds_toArray, List.set_cons_zero, List.set_cons_succ]) | (apply canN1; (· rfl); (· (go_simp; done)); simp only [Act.put, List.setIfInBounds_toArray, List.set_cons_zero, List.set_cons_succ])))
                  refine canW rfl [] rfl (fun K hK => ?_)
                  go_simp
                  go_at_call 12
                  refine (bytes_by HX1d.out.by HX2d.out.by).mono ?_
                  rw [decide_eq_true rfl]
                  rintro e yy ⟨rfl, rfl⟩
                  (refine hK _ _ (fun u hu => by cases hu) ?_; clear hK K; try simp only [Act.put, List.setIfInBounds_toArray, List.set_cons_zero, List.set_cons_succ])
                  (repeat (first | (apply can0; (· rfl); (· rfl); (· (intro w'; first | (go_simp; with_reducible rfl) | (go_simp; done))); simp only [Act.put, List.setIfInBounds_toArray, List.set_cons_zero, List.set_cons_succ]) | (apply can1; (· rfl); (· rfl); (· (first | (go_simp; with_reducible rfl) | (go_simp; done))); simp only [Act.put, List.setIfInBounds_toArray, List.set_cons_zero, List.set_cons_succ]) | (apply canN; (· rfl); (· rfl); simp only [Act.put, List.setIfInBounds_toArray, List.set_cons_zero, List.set_cons_succ]) | (apply canN1; (· rfl); (· rfl); simp only [Act.put, List.setIfInBounds_toArray, List.set_cons_zero, List.set_cons_succ]) | (apply can0; (· rfl); (· (go_simp; done)); (· (intro w'; first | (go_simp; with_reducible rfl) | (go_simp; done))); simp only [Act.put, List.setIfInBounds_toArray, List.set_cons_zero, List.set_cons_succ]) | (apply can1; (· rfl); (· (go_simp; done)); (· (first | (go_simp; with_reducible rfl) | (go_simp; done))); simp only [Act.put, List.setIfInBounds_toArray, List.set_cons_zero, List.set_cons_succ]) | (apply canN; (· rfl); (· (go_simp; done)); simp only [Act.put, List.setIfInBounds_toArray, List.set_cons_zero, List.set_cons_succ]) | (apply canN1; (· rfl); (· (go_simp; done)); simp only [Act.put, List.setIfInBounds_toArray, List.set_cons_zero, List.set_cons_succ])))
                  refine canW rfl [15] rfl (fun K hK => ?_)
                  go_simp
                  go_at_call 13
                  refine (paddr_any wd ga gwa ua _ HOd.out.a).mono ?_
                  rintro e yy ⟨rfl, rfl⟩
                  (refine hK _ _ (fun u hu => by (simp only [List.mem_cons, List.not_mem_nil, or_false] at hu); (first | (subst hu; exact reRun_mk rfl (by first | (go_simp; with_reducible rfl) | (go_simp; done)) (holds_at rfl)) | ((repeat' (first | (rcases hu with rfl | hu) | (subst hu))) <;> exact reRun_mk rfl (by first | (go_simp; with_reducible rfl) | (go_simp; done)) (holds_at rfl)))) ?_; clear hK K; try simp only [Act.put, List.setIfInBounds_toArray, List.set_cons_zero, List.set_cons_succ])
                  (repeat (first | (apply can0; (· rfl); (· rfl); (· (intro w'; first | (go_simp; with_reducible rfl) | (go_simp; done))); simp only [Act.put, List.setIfInBounds_toArray, List.set_cons_zero, List.set_cons_succ]) | (apply can1; (· rfl); (· rfl); (· (first | (go_simp; with_reducible rfl) | (go_simp; done))); simp only [Act.put, List.setIfInBounds_toArray, List.set_cons_zero, List.set_cons_succ]) | (apply canN; (· rfl); (· rfl); simp only [Act.put, List.setIfInBounds_toArray, List.set_cons_zero, List.set_cons_succ]) | (apply canN1; (· rfl); (· rfl); simp only [Act.put, List.setIfInBounds_toArray, List.set_cons_zero, List.set_cons_succ]) | (apply can0; (· rfl); (· (go_simp; done)); (· (intro w'; first | (go_simp; with_reducible rfl) | (go_simp; done))); simp only [Act.put, List.setIfInBounds_toArray, List.set_cons_zero, List.set_cons_succ]) | (apply can1; (· rfl); (· (go_simp; done)); (· (first | (go_simp; with_reducible rfl) | (go_simp; done))); simp only [Act.put, List.setIfInBounds_toArray, List.set_cons_zero, List.set_cons_succ]) | (apply canN; (· rfl); (· (go_simp; done)); simp only [Act.put, List.setIfInBounds_toArray, List.set_cons_zero, List.set_cons_succ]) | (apply canN1; (· rfl); (· (go_simp; done)); simp only [Act.put, List.setIfInBounds_toArray, List.set_cons_zero, List.set_cons_succ])))
                  refine canW rfl [24] rfl (fun K hK => ?_)
                  go_simp
                  go_at_call 14
                  refine (pout_any wd ga gwa ua _ HOd.out.a).mono ?_
                  rintro e yy ⟨rfl, rfl⟩
                  (refine hK _ _ (fun u hu => by (simp only [List.mem_cons, List.not_mem_nil, or_false] at hu); (first | (subst hu; exact reRun_mk rfl (by first | (go_simp; with_reducible rfl) | (go_simp; done)) (holds_at rfl)) | ((repeat' (first | (rcases hu with rfl | hu) | (subst hu))) <;> exact reRun_mk rfl (by first | (go_simp; with_reducible rfl) | (go_simp; done)) (holds_at rfl)))) ?_; clear hK K; try simp only [Act.put, List.setIfInBounds_toArray, List.set_cons_zero, List.set_cons_succ])
                  (repeat (first | (apply can0; (· rfl); (· rfl); (· (intro w'; first | (go_simp; with_reducible rfl) | (go_simp; done))); simp only [Act.put, List.setIfInBounds_toArray, List.set_cons_zero, List.set_cons_succ]) | (apply can1; (· rfl); (· rfl); (· (first | (go_simp; with_reducible rfl) | (go_simp; done))); simp only [Act.put, List.setIfInBounds_toArray, List.set_cons_zero, List.set_cons_succ]) | (apply canN; (· rfl); (· rfl); simp only [Act.put, List.setIfInBounds_toArray, List.set_cons_zero, List.set_cons_succ]) | (apply canN1; (· rfl); (· rfl); simp only [Act.put, List.setIfInBounds_toArray, List.set_cons_zero, List.set_cons_succ]) | (apply can0; (· rfl); (· (go_simp; done)); (· (intro w'; first | (go_simp; with_reducible rfl) | (go_simp; done))); simp only [Act.put, List.setIfInBounds_toArray, List.set_cons_zero, List.set_cons_succ]) | (apply can1; (· rfl); (· (go_simp; done)); (· (first | (go_simp; with_reducible rfl) | (go_simp; done))); simp only [Act.put, List.setIfInBounds_toArray, List.set_cons_zero, List.set_cons_succ]) | (apply canN; (· rfl); (· (go_simp; done)); simp only [Act.put, List.setIfInBounds_toArray, List.set_cons_zero, List.set_cons_succ]) | (apply canN1; (· rfl); (· (go_simp; done)); simp only [Act.put, List.setIfInBounds_toArray, List.set_cons_zero, List.set_cons_succ])))
                  refine canW rfl [33] rfl (fun K hK => ?_)
                  go_simp
                  go_at_call 15
                  refine (pin_any wd ga gwa ua _ HOd.out.a).mono ?_
                  rintro e yy ⟨rfl, rfl⟩
                  (refine hK _ _ (fun u hu => by (simp only [List.mem_cons, List.not_mem_nil, or_false] at hu); (first | (subst hu; exact reRun_mk rfl (by first | (go_simp; with_reducible rfl) | (go_simp; done)) (holds_at rfl)) | ((repeat' (first | (rcases hu with rfl | hu) | (subst hu))) <;> exact reRun_mk rfl (by first | (go_simp; with_reducible rfl) | (go_simp; done)) (holds_at rfl)))) ?_; clear hK K; try simp only [Act.put, List.setIfInBounds_toArray, List.set_cons_zero, List.set_cons_succ])
                  (repeat (first | (apply can0; (· rfl); (· rfl); (· (intro w'; first | (go_simp; with_reducible rfl) | (go_simp; done))); simp only [Act.put, List.setIfInBounds_toArray, List.set_cons_zero, List.set_cons_succ]) | (apply can1; (· rfl); (· rfl); (· (first | (go_simp; with_reducible rfl) | (go_simp; done))); simp only [Act.put, List.setIfInBounds_toArray, List.set_cons_zero, List.set_cons_succ]) | (apply canN; (· rfl); (· rfl); simp only [Act.put, List.setIfInBounds_toArray, List.set_cons_zero, List.set_cons_succ]) | (apply canN1; (· rfl); (· rfl); simp only [Act.put, List.setIfInBounds_toArray, List.set_cons_zero, List.set_cons_succ]) | (apply can0; (· rfl); (· (go_simp; done)); (· (intro w'; first | (go_simp; with_reducible rfl) | (go_simp; done))); simp only [Act.put, List.setIfInBounds_toArray, List.set_cons_zero, List.set_cons_succ]) | (apply can1; (· rfl); (· (go_simp; done)); (· (first | (go_simp; with_reducible rfl) | (go_simp; done))); simp only [Act.put, List.setIfInBounds_toArray, List.set_cons_zero, List.set_cons_succ]) | (apply canN; (· rfl); (· (go_simp; done)); simp only [Act.put, List.setIfInBounds_toArray, List.set_cons_zero, List.set_cons_succ]) | (apply canN1; (· rfl); (· (go_simp; done)); simp only [Act.put, List.setIfInBounds_toArray, List.set_cons_zero, List.set_cons_succ])))
                  refine canE ?_
                  go_wp2
                  go_roundw
                  case rel => exact ⟨i + 1, _, _, _, _, _, by omega, by simp; omega, by go_num, by first | rfl | simp, HOd⟩
                  case measure => simp [intOf]; omega
                · have he' : (er == 0) = false := by simpa using her
                  have HX1 : Hid (Out w5 (.slice none 0 0) []) := Lib.hid (Out.nil _)
                  have HX2 : Hid (Out w5 (.slice none 0 0) []) := Lib.hid (Out.nil _)
                  -- the comparison: HO (St), HX1, HX2 (both results), the errors one e
                  go_wp2_with fail
                  refine wp_one [15, 24, 33] [2, 11, 20, 29] [(11, [15]), (20, [24]), (29, [33])] [0, 1, 2, 3, 4, 5, 6, 7, 8, 9, 10, 12, 13, 14, 15, 11, 16, 17, 18, 19, 21, 22, 23, 24, 20, 25, 26, 27, 28, 30, 31, 32, 33, 29, 34, 35] rfl (by kernel_rfl) (fun _ _ _ _ _ h => h) ?_; simp only [List.map_cons, List.map_nil, List.getElem?_toArray, List.getElem?_cons_zero, List.getElem?_cons_succ]
                  obtain ⟨wd, hwd⟩ : ∃ W, World.drew w5 = W := ⟨_, rfl⟩
                  have hcd : Chg w5 wd nob := by rw [← hwd]; exact (Chg.refl w5 nob).drew
                  rw [hwd]
                  have HOd := Lib.hid (HO.out.kept hcd)
                  have HX1d := Lib.hid (HX1.out.kept (Kp.of hcd))
                  have HX2d := Lib.hid (HX2.out.kept (Kp.of hcd))
                  clear hcd hwd HO HX1 HX2
                  have r3 := HOd.out.x.blk.cell 3
                  have r4 := HOd.out.x.blk.cell 4
                  have r5 := HOd.out.x.blk.cell 5
                  simp only [List.getElem?_toArray, List.getElem?_cons_zero, List.getElem?_cons_succ] at r3 r4 r5
                  (repeat (first | (apply can0; (· rfl); (· rfl); (· (intro w'; first | (go_simp; with_reducible rfl) | (go_simp; done))); simp only [Act.put, List.setIfInBounds_toArray, List.set_cons_zero, List.set_cons_succ]) | (apply can1; (· rfl); (· rfl); (· (first | (go_simp; with_reducible rfl) | (go_simp; done))); simp only [Act.put, List.setIfInBounds_toArray, List.set_cons_zero, List.set_cons_succ]) | (apply canN; (· rfl); (· rfl); simp only [Act.put, List.setIfInBounds_toArray, List.set_cons_zero, List.set_cons_succ]) | (apply canN1; (· rfl); (· rfl); simp only [Act.put, List.setIfInBounds_toArray, List.set_cons_zero, List.set_cons_succ]) | (apply can0; (· rfl); (· (go_simp; done)); (· (intro w'; first | (go_simp; with_reducible rfl) | (go_simp; done))); simp only [Act.put, List.setIfInBounds_toArray, List.set_cons_zero, List.set_cons_succ]) | (apply can1; (· rfl); (· (go_simp; done)); (· (first | (go_simp; with_reducible rfl) | (go_simp; done))); simp only [Act.put, List.setIfInBounds_toArray, List.set_cons_zero, List.set_cons_succ]) | (apply canN; (· rfl); (· (go_simp; done)); simp only [Act.put, List.setIfInBounds_toArray, List.set_cons_zero, List.set_cons_succ]) | (apply canN1; (· rfl); (· (go_simp; done)); simp only [Act.put, List.setIfInBounds_toArray, List.set_cons_zero, List.set_cons_succ])))
                  refine canW rfl [] rfl (fun K hK => ?_)
                  go_simp
                  go_at_call 12
                  refine (bytes_by HX1d.out.by HX2d.out.by).mono ?_
                  rw [decide_eq_true rfl]
                  rintro e yy ⟨rfl, rfl⟩
                  (refine hK _ _ (fun u hu => by cases hu) ?_; clear hK K; try simp only [Act.put, List.setIfInBounds_toArray, List.set_cons_zero, List.set_cons_succ])
                  (repeat (first | (apply can0; (· rfl); (· rfl); (· (intro w'; first | (go_simp; with_reducible rfl) | (go_simp; done))); simp only [Act.put, List.setIfInBounds_toArray, List.set_cons_zero, List.set_cons_succ]) | (apply can1; (· rfl); (· rfl); (· (first | (go_simp; with_reducible rfl) | (go_simp; done))); simp only [Act.put, List.setIfInBounds_toArray, List.set_cons_zero, List.set_cons_succ]) | (apply canN; (· rfl); (· rfl); simp only [Act.put, List.setIfInBounds_toArray, List.set_cons_zero, List.set_cons_succ]) | (apply canN1; (· rfl); (· rfl); simp only [Act.put, List.setIfInBounds_toArray, List.set_cons_zero, List.set_cons_succ]) | (apply can0; (· rfl); (· (go_simp; done)); (· (intro w'; first | (go_simp; with_reducible rfl) | (go_simp; done))); simp only [Act.put, List.setIfInBounds_toArray, List.set_cons_zero, List.set_cons_succ]) | (apply can1; (· rfl); (· (go_simp; done)); (· (first | (go_simp; with_reducible rfl) | (go_simp; done))); simp only [Act.put, List.setIfInBounds_toArray, List.set_cons_zero, List.set_cons_succ]) | (apply canN; (· rfl); (· (go_simp; done)); simp only [Act.put, List.setIfInBounds_toArray, List.set_cons_zero, List.set_cons_succ]) | (apply canN1; (· rfl); (· (go_simp; done)); simp only [Act.put, List.setIfInBounds_toArray, List.set_cons_zero, List.set_cons_succ])))
                  refine canW rfl [15] rfl (fun K hK => ?_)
                  go_simp
                  go_at_call 13
                  refine (paddr_any wd ga gwa ua _ HOd.out.a).mono ?_
                  rintro e yy ⟨rfl, rfl⟩
                  (refine hK _ _ (fun u hu => by (simp only [List.mem_cons, List.not_mem_nil, or_false] at hu); (first | (subst hu; exact reRun_mk rfl (by first | (go_simp; with_reducible rfl) | (go_simp; done)) (holds_at rfl)) | ((repeat' (first | (rcases hu with rfl | hu) | (subst hu))) <;> exact reRun_mk rfl (by first | (go_simp; with_reducible rfl) | (go_simp; done)) (holds_at rfl)))) ?_; clear hK K; try simp only [Act.put, List.setIfInBounds_toArray, List.set_cons_zero, List.set_cons_succ])
                  (repeat (first | (apply can0; (· rfl); (· rfl); (· (intro w'; first | (go_simp; with_reducible rfl) | (go_simp; done))); simp only [Act.put, List.setIfInBounds_toArray, List.set_cons_zero, List.set_cons_succ]) | (apply can1; (· rfl); (· rfl); (· (first | (go_simp; with_reducible rfl) | (go_simp; done))); simp only [Act.put, List.setIfInBounds_toArray, List.set_cons_zero, List.set_cons_succ]) | (apply canN; (· rfl); (· rfl); simp only [Act.put, List.setIfInBounds_toArray, List.set_cons_zero, List.set_cons_succ]) | (apply canN1; (· rfl); (· rfl); simp only [Act.put, List.setIfInBounds_toArray, List.set_cons_zero, List.set_cons_succ]) | (apply can0; (· rfl); (· (go_simp; done)); (· (intro w'; first | (go_simp; with_reducible rfl) | (go_simp; done))); simp only [Act.put, List.setIfInBounds_toArray, List.set_cons_zero, List.set_cons_succ]) | (apply can1; (· rfl); (· (go_simp; done)); (· (first | (go_simp; with_reducible rfl) | (go_simp; done))); simp only [Act.put, List.setIfInBounds_toArray, List.set_cons_zero, List.set_cons_succ]) | (apply canN; (· rfl); (· (go_simp; done)); simp only [Act.put, List.setIfInBounds_toArray, List.set_cons_zero, List.set_cons_succ]) | (apply canN1; (· rfl); (· (go_simp; done)); simp only [Act.put, List.setIfInBounds_toArray, List.set_cons_zero, List.set_cons_succ])))
                  refine canW rfl [24] rfl (fun K hK => ?_)
                  go_simp
                  go_at_call 14
                  refine (pout_any wd ga gwa ua _ HOd.out.a).mono ?_
                  rintro e yy ⟨rfl, rfl⟩
                  (refine hK _ _ (fun u hu => by (simp only [List.mem_cons, List.not_mem_nil, or_false] at hu); (first | (subst hu; exact reRun_mk rfl (by first | (go_simp; with_reducible rfl) | (go_simp; done)) (holds_at rfl)) | ((repeat' (first | (rcases hu with rfl | hu) | (subst hu))) <;> exact reRun_mk rfl (by first | (go_simp; with_reducible rfl) | (go_simp; done)) (holds_at rfl)))) ?_; clear hK K; try simp only [Act.put, List.setIfInBounds_toArray, List.set_cons_zero, List.set_cons_succ])
                  (repeat (first | (apply can0; (· rfl); (· rfl); (· (intro w'; first | (go_simp; with_reducible rfl) | (go_simp; done))); simp only [Act.put, List.setIfInBounds_toArray, List.set_cons_zero, List.set_cons_succ]) | (apply can1; (· rfl); (· rfl); (· (first | (go_simp; with_reducible rfl) | (go_simp; done))); simp only [Act.put, List.setIfInBounds_toArray, List.set_cons_zero, List.set_cons_succ]) | (apply canN; (· rfl); (· rfl); simp only [Act.put, List.setIfInBounds_toArray, List.set_cons_zero, List.set_cons_succ]) | (apply canN1; (· rfl); (· rfl); simp only [Act.put, List.setIfInBounds_toArray, List.set_cons_zero, List.set_cons_succ]) | (apply can0; (· rfl); (· (go_simp; done)); (· (intro w'; first | (go_simp; with_reducible rfl) | (go_simp; done))); simp only [Act.put, List.setIfInBounds_toArray, List.set_cons_zero, List.set_cons_succ]) | (apply can1; (· rfl); (· (go_simp; done)); (· (first | (go_simp; with_reducible rfl) | (go_simp; done))); simp only [Act.put, List.setIfInBounds_toArray, List.set_cons_zero, List.set_cons_succ]) | (apply canN; (· rfl); (· (go_simp; done)); simp only [Act.put, List.setIfInBounds_toArray, List.set_cons_zero, List.set_cons_succ]) | (apply canN1; (· rfl); (· (go_simp; done)); simp only [Act.put, List.setIfInBounds_toArray, List.set_cons_zero, List.set_cons_succ])))
                  refine canW rfl [33] rfl (fun K hK => ?_)
                  go_simp
                  go_at_call 15
                  refine (pin_any wd ga gwa ua _ HOd.out.a).mono ?_
                  rintro e yy ⟨rfl, rfl⟩
                  (refine hK _ _ (fun u hu => by (simp only [List.mem_cons, List.not_mem_nil, or_false] at hu); (first | (subst hu; exact reRun_mk rfl (by first | (go_simp; with_reducible rfl) | (go_simp; done)) (holds_at rfl)) | ((repeat' (first | (rcases hu with rfl | hu) | (subst hu))) <;> exact reRun_mk rfl (by first | (go_simp; with_reducible rfl) | (go_simp; done)) (holds_at rfl)))) ?_; clear hK K; try simp only [Act.put, List.setIfInBounds_toArray, List.set_cons_zero, List.set_cons_succ])
                  (repeat (first | (apply can0; (· rfl); (· rfl); (· (intro w'; first | (go_simp; with_reducible rfl) | (go_simp; done))); simp only [Act.put, List.setIfInBounds_toArray, List.set_cons_zero, List.set_cons_succ]) | (apply can1; (· rfl); (· rfl); (· (first | (go_simp; with_reducible rfl) | (go_simp; done))); simp only [Act.put, List.setIfInBounds_toArray, List.set_cons_zero, List.set_cons_succ]) | (apply canN; (· rfl); (· rfl); simp only [Act.put, List.setIfInBounds_toArray, List.set_cons_zero, List.set_cons_succ]) | (apply canN1; (· rfl); (· rfl); simp only [Act.put, List.setIfInBounds_toArray, List.set_cons_zero, List.set_cons_succ]) | (apply can0; (· rfl); (· (go_simp; done)); (· (intro w'; first | (go_simp; with_reducible rfl) | (go_simp; done))); simp only [Act.put, List.setIfInBounds_toArray, List.set_cons_zero, List.set_cons_succ]) | (apply can1; (· rfl); (· (go_simp; done)); (· (first | (go_simp; with_reducible rfl) | (go_simp; done))); simp only [Act.put, List.setIfInBounds_toArray, List.set_cons_zero, List.set_cons_succ]) | (apply canN; (· rfl); (· (go_simp; done)); simp only [Act.put, List.setIfInBounds_toArray, List.set_cons_zero, List.set_cons_succ]) | (apply canN1; (· rfl); (· (go_simp; done)); simp only [Act.put, List.setIfInBounds_toArray, List.set_cons_zero, List.set_cons_succ])))
                  refine canE ?_
                  go_wp2
                  go_roundw
                  case rel => exact ⟨i + 1, _, _, _, _, _, by omega, by omega, by go_num, by first | rfl | simp, HOd⟩
                  case measure => simp [intOf]; omega
            · as_aux_lemma =>
                have n0' : (kd == 0) = false := by simpa using n0
                have n1' : (kd == 1) = false := by simpa using n1
                have n2' : (kd == 2) = false := by simpa using n2
                have n3' : (kd == 3) = false := by simpa using n3
                have q0 : wD.cell? ⟨p, 0, none⟩ = some (.int .i64 kd) := by rw [HP.out.cell]; rfl
                have q1 : wD.cell? ⟨p, 1, none⟩ = some (.int .i64 kk) := by rw [HP.out.cell]; rfl
                have q2 : wD.cell? ⟨p, 2, none⟩ = some (.int .i64 fr) := by rw [HP.out.cell]; rfl
                have q3 : wD.cell? ⟨p, 3, none⟩ = some (.slice ab b.length cb) := by rw [HP.out.cell]; rfl
                have HX1 : Hid (Out wD (.slice none 0 0) []) := Lib.hid (Out.nil _)
                have HX2 : Hid (Out wD (.slice none 0 0) []) := Lib.hid (Out.nil _)
                -- the comparison: HO (St), HX1, HX2 (both results), the errors one e
                go_wp2_with fail
                refine wp_one [15, 24, 33] [2, 11, 20, 29] [(11, [15]), (20, [24]), (29, [33])] [0, 1, 2, 3, 4, 5, 6, 7, 8, 9, 10, 12, 13, 14, 15, 11, 16, 17, 18, 19, 21, 22, 23, 24, 20, 25, 26, 27, 28, 30, 31, 32, 33, 29, 34, 35] rfl (by kernel_rfl) (fun _ _ _ _ _ h => h) ?_; simp only [List.map_cons, List.map_nil, List.getElem?_toArray, List.getElem?_cons_zero, List.getElem?_cons_succ]
                obtain ⟨wd, hwd⟩ : ∃ W, World.drew wD = W := ⟨_, rfl⟩
                have hcd : Chg wD wd nob := by rw [← hwd]; exact (Chg.refl wD nob).drew
                rw [hwd]
                have HOd := Lib.hid (HO.out.kept hcd)
                have HX1d := Lib.hid (HX1.out.kept (Kp.of hcd))
                have HX2d := Lib.hid (HX2.out.kept (Kp.of hcd))
                clear hcd hwd HO HX1 HX2
                have r3 := HOd.out.x.blk.cell 3
                have r4 := HOd.out.x.blk.cell 4
                have r5 := HOd.out.x.blk.cell 5
                simp only [List.getElem?_toArray, List.getElem?_cons_zero, List.getElem?_cons_succ] at r3 r4 r5
                (repeat (first | (apply can0; (· rfl); (· rfl); (· (intro w'; first | (go_simp; with_reducible rfl) | (go_simp; done))); simp only [Act.put, List.setIfInBounds_toArray, List.set_cons_zero, List.set_cons_succ]) | (apply can1; (· rfl); (· rfl); (· (first | (go_simp; with_reducible rfl) | (go_simp; done))); simp only [Act.put, List.setIfInBounds_toArray, List.set_cons_zero, List.set_cons_succ]) | (apply canN; (· rfl); (· rfl); simp only [Act.put, List.setIfInBounds_toArray, List.set_cons_zero, List.set_cons_succ]) | (apply canN1; (· rfl); (· rfl); simp only [Act.put, List.setIfInBounds_toArray, List.set_cons_zero, List.set_cons_succ]) | (apply can0; (· rfl); (· (go_simp; done)); (· (intro w'; first | (go_simp; with_reducible rfl) | (go_simp; done))); simp only [Act.put, List.setIfInBounds_toArray, List.set_cons_zero, List.set_cons_succ]) | (apply can1; (· rfl); (· (go_simp; done)); (· (first | (go_simp; with_reducible rfl) | (go_simp; done))); simp only [Act.put, List.setIfInBounds_toArray, List.set_cons_zero, List.set_cons_succ]) | (apply canN; (· rfl); (· (go_simp; done)); simp only [Act.put, List.setIfInBounds_toArray, List.set_cons_zero, List.set_cons_succ]) | (apply canN1; (· rfl); (· (go_simp; done)); simp only [Act.put, List.setIfInBounds_toArray, List.set_cons_zero, List.set_cons_succ])))
                refine canW rfl [] rfl (fun K hK => ?_)
                go_simp
                go_at_call 12
                refine (bytes_by HX1d.out.by HX2d.out.by).mono ?_
                rw [decide_eq_true rfl]
                rintro e yy ⟨rfl, rfl⟩
                (refine hK _ _ (fun u hu => by cases hu) ?_; clear hK K; try simp only [Act.put, List.setIfInBounds_toArray, List.set_cons_zero, List.set_cons_succ])
                (repeat (first | (apply can0; (· rfl); (· rfl); (· (intro w'; first | (go_simp; with_reducible rfl) | (go_simp; done))); simp only [Act.put, List.setIfInBounds_toArray, List.set_cons_zero, List.set_cons_succ]) | (apply can1; (· rfl); (· rfl); (· (first | (go_simp; with_reducible rfl) | (go_simp; done))); simp only [Act.put, List.setIfInBounds_toArray, List.set_cons_zero, List.set_cons_succ]) | (apply canN; (· rfl); (· rfl); simp only [Act.put, List.setIfInBounds_toArray, List.set_cons_zero, List.set_cons_succ]) | (apply canN1; (· rfl); (· rfl); simp only [Act.put, List.setIfInBounds_toArray, List.set_cons_zero, List.set_cons_succ]) | (apply can0; (· rfl); (· (go_simp; done)); (· (intro w'; first | (go_simp; with_reducible rfl) | (go_simp; done))); simp only [Act.put, List.setIfInBounds_toArray, List.set_cons_zero, List.set_cons_succ]) | (apply can1; (· rfl); (· (go_simp; done)); (· (first | (go_simp; with_reducible rfl) | (go_simp; done))); simp only [Act.put, List.setIfInBounds_toArray, List.set_cons_zero, List.set_cons_succ]) | (apply canN; (· rfl); (· (go_simp; done)); simp only [Act.put, List.setIfInBounds_toArray, List.set_cons_zero, List.set_cons_succ]) | (apply canN1; (· rfl); (· (go_simp; done)); simp only [Act.put, List.setIfInBounds_toArray, List.set_cons_zero, List.set_cons_succ])))
                refine canW rfl [15] rfl (fun K hK => ?_)
                go_simp
                go_at_call 13
                refine (paddr_any wd ga gwa ua _ HOd.out.a).mono ?_
                rintro e yy ⟨rfl, rfl⟩
                (refine hK _ _ (fun u hu => by (simp only [List.mem_cons, List.not_mem_nil, or_false] at hu); (first | (subst hu; exact reRun_mk rfl (by first | (go_simp; with_reducible rfl) | (go_simp; done)) (holds_at rfl)) | ((repeat' (first | (rcases hu with rfl | hu) | (subst hu))) <;> exact reRun_mk rfl (by first | (go_simp; with_reducible rfl) | (go_simp; done)) (holds_at rfl)))) ?_; clear hK K; try simp only [Act.put, List.setIfInBounds_toArray, List.set_cons_zero, List.set_cons_succ])
                (repeat (first | (apply can0; (· rfl); (· rfl); (· (intro w'; first | (go_simp; with_reducible rfl) | (go_simp; done))); simp only [Act.put, List.setIfInBounds_toArray, List.set_cons_zero, List.set_cons_succ]) | (apply can1; (· rfl); (· rfl); (· (first | (go_simp; with_reducible rfl) | (go_simp; done))); simp only [Act.put, List.setIfInBounds_toArray, List.set_cons_zero, List.set_cons_succ]) | (apply canN; (· rfl); (· rfl); simp only [Act.put, List.setIfInBounds_toArray, List.set_cons_zero, List.set_cons_succ]) | (apply canN1; (· rfl); (· rfl); simp only [Act.put, List.setIfInBounds_toArray, List.set_cons_zero, List.set_cons_succ]) | (apply can0; (· rfl); (· (go_simp; done)); (· (intro w'; first | (go_simp; with_reducible rfl) | (go_simp; done))); simp only [Act.put, List.setIfInBounds_toArray, List.set_cons_zero, List.set_cons_succ]) | (apply can1; (· rfl); (· (go_simp; done)); (· (first | (go_simp; with_reducible rfl) | (go_simp; done))); simp only [Act.put, List.setIfInBounds_toArray, List.set_cons_zero, List.set_cons_succ]) | (apply canN; (· rfl); (· (go_simp; done)); simp only [Act.put, List.setIfInBounds_toArray, List.set_cons_zero, List.set_cons_succ]) | (apply canN1; (· rfl); (· (go_simp; done)); simp only [Act.put, List.setIfInBounds_toArray, List.set_cons_zero, List.set_cons_succ])))
                refine canW rfl [24] rfl (fun K hK => ?_)
                go_simp
                go_at_call 14
                refine (pout_any wd ga gwa ua _ HOd.out.a).mono ?_
                rintro e yy ⟨rfl, rfl⟩
                (refine hK _ _ (fun u hu => by (simp only [List.mem_cons, List.not_mem_nil, or_false] at hu); (first | (subst hu; exact reRun_mk rfl (by first | (go_simp; with_reducible rfl) | (go_simp; done)) (holds_at rfl)) | ((repeat' (first | (rcases hu with rfl | hu) | (subst hu))) <;> exact reRun_mk rfl (by first | (go_simp; with_reducible rfl) | (go_simp; done)) (holds_at rfl)))) ?_; clear hK K; try simp only [Act.put, List.setIfInBounds_toArray, List.set_cons_zero, List.set_cons_succ])
                (repeat (first | (apply can0; (· rfl); (· rfl); (· (intro w'; first | (go_simp; with_reducible rfl) | (go_simp; done))); simp only [Act.put, List.setIfInBounds_toArray, List.set_cons_zero, List.set_cons_succ]) | (apply can1; (· rfl); (· rfl); (· (first | (go_simp; with_reducible rfl) | (go_simp; done))); simp only [Act.put, List.setIfInBounds_toArray, List.set_cons_zero, List.set_cons_succ]) | (apply canN; (· rfl); (· rfl); simp only [Act.put, List.setIfInBounds_toArray, List.set_cons_zero, List.set_cons_succ]) | (apply canN1; (· rfl); (· rfl); simp only [Act.put, List.setIfInBounds_toArray, List.set_cons_zero, List.set_cons_succ]) | (apply can0; (· rfl); (· (go_simp; done)); (· (intro w'; first | (go_simp; with_reducible rfl) | (go_simp; done))); simp only [Act.put, List.setIfInBounds_toArray, List.set_cons_zero, List.set_cons_succ]) | (apply can1; (· rfl); (· (go_simp; done)); (· (first | (go_simp; with_reducible rfl) | (go_simp; done))); simp only [Act.put, List.setIfInBounds_toArray, List.set_cons_zero, List.set_cons_succ]) | (apply canN; (· rfl); (· (go_simp; done)); simp only [Act.put, List.setIfInBounds_toArray, List.set_cons_zero, List.set_cons_succ]) | (apply canN1; (· rfl); (· (go_simp; done)); simp only [Act.put, List.setIfInBounds_toArray, List.set_cons_zero, List.set_cons_succ])))
                refine canW rfl [33] rfl (fun K hK => ?_)
                go_simp
                go_at_call 15
                refine (pin_any wd ga gwa ua _ HOd.out.a).mono ?_
                rintro e yy ⟨rfl, rfl⟩
                (refine hK _ _ (fun u hu => by (simp only [List.mem_cons, List.not_mem_nil, or_false] at hu); (first | (subst hu; exact reRun_mk rfl (by first | (go_simp; with_reducible rfl) | (go_simp; done)) (holds_at rfl)) | ((repeat' (first | (rcases hu with rfl | hu) | (subst hu))) <;> exact reRun_mk rfl (by first | (go_simp; with_reducible rfl) | (go_simp; done)) (holds_at rfl)))) ?_; clear hK K; try simp only [Act.put, List.setIfInBounds_toArray, List.set_cons_zero, List.set_cons_succ])
                (repeat (first | (apply can0; (· rfl); (· rfl); (· (intro w'; first | (go_simp; with_reducible rfl) | (go_simp; done))); simp only [Act.put, List.setIfInBounds_toArray, List.set_cons_zero, List.set_cons_succ]) | (apply can1; (· rfl); (· rfl); (· (first | (go_simp; with_reducible rfl) | (go_simp; done))); simp only [Act.put, List.setIfInBounds_toArray, List.set_cons_zero, List.set_cons_succ]) | (apply canN; (· rfl); (· rfl); simp only [Act.put, List.setIfInBounds_toArray, List.set_cons_zero, List.set_cons_succ]) | (apply canN1; (· rfl); (· rfl); simp only [Act.put, List.setIfInBounds_toArray, List.set_cons_zero, List.set_cons_succ]) | (apply can0; (· rfl); (· (go_simp; done)); (· (intro w'; first | (go_simp; with_reducible rfl) | (go_simp; done))); simp only [Act.put, List.setIfInBounds_toArray, List.set_cons_zero, List.set_cons_succ]) | (apply can1; (· rfl); (· (go_simp; done)); (· (first | (go_simp; with_reducible rfl) | (go_simp; done))); simp only [Act.put, List.setIfInBounds_toArray, List.set_cons_zero, List.set_cons_succ]) | (apply canN; (· rfl); (· (go_simp; done)); simp only [Act.put, List.setIfInBounds_toArray, List.set_cons_zero, List.set_cons_succ]) | (apply canN1; (· rfl); (· (go_simp; done)); simp only [Act.put, List.setIfInBounds_toArray, List.set_cons_zero, List.set_cons_succ])))
                refine canE ?_
                go_wp2
                go_roundw
                case rel => exact ⟨i + 1, _, _, _, _, _, by omega, by omega, by go_num, by first | rfl | simp, HOd⟩
                case measure => simp [intOf]; omega
          · obtain rfl : i = P4.length := by omega
            have HC := Lib.hid HO.out.chg
            rename World => wz
            go_wp2_with fail
            go_at_call 4
            refine (first27_any wz (HT.out.kept HC.out id)).mono ?_
            rintro e x ⟨rfl, hx⟩
            have HXX := Lib.hid hx
            clear hx
            go_wp2
            go_ret
            exact ⟨rfl, HC.out.trans HXX.out (fun _ _ h => h)⟩
      · skip
        have HN := Lib.hid hn
        clear hn
        go_wp2_with fail
        go_at_call 6
        refine (pnew_no w1 _ a1 a2 a3 HN.out).mono ?_
        rintro e w2 ⟨rfl, hck⟩
        replace HC : Hid (Chg w w2 nob) := Lib.hid (HC.out.trans hck (fun _ _ h => h))
        clear hck
        go_wp2_with fail
        go_at_call 7
        refine (rnew_no w2 _ a1 a2 a3 HN.out).mono ?_
        rintro e w3 ⟨rfl, hck⟩
        replace HC : Hid (Chg w w3 nob) := Lib.hid (HC.out.trans hck (fun _ _ h => h))
        clear hck
        go_wp2_with fail
        go_at_call 4
        refine (first27_any w3 (HT.out.kept HC.out id)).mono ?_
        rintro e x ⟨rfl, hx⟩
        have HXX := Lib.hid hx
        clear hx
        go_wp2
        go_ret
        exact ⟨rfl, HC.out.trans HXX.out (fun _ _ h => h)⟩
    · have HF := Lib.hid (decide_eq_false hf)
      go_wp2_with fail
      go_at_call 5
      refine (few_any w1 a4 c4 P4 (H4.out.kept HC.out)).mono ?_
      rw [HF.out]
      rintro e x ⟨rfl, rfl⟩
      go_wp2_with fail
      go_at_call 4
      refine (first27_any w1 (HT.out.kept HC.out id)).mono ?_
      rintro e x ⟨rfl, hx⟩
      have HXX := Lib.hid hx
      clear hx
      go_wp2
      go_ret
      exact ⟨rfl, HC.out.trans HXX.out (fun _ _ h => h)⟩
  · have hki : (1000 : Int) < (l0.length : Int) := by omega
    go_wp2_with fail
    go_at_call 4
    refine (first27_any w1 (HT.out.kept HC.out id)).mono ?_
    rintro e x ⟨rfl, hx⟩
    have HXX := Lib.hid hx
    clear hx
    go_wp2
    go_ret
    exact ⟨rfl, HC.out.trans HXX.out (fun _ _ h => h)⟩
end Go.Proofs.YtcgdmidjejmjhaaDoor
