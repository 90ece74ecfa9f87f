/-
  Chapter 3: the walk of UtfWrites.
-/
import Derived.Test.YtfcgjnmbbgioiaaUtf14
namespace Go.Proofs.Ytfcgjnmbbgioiaa
open Go.RowKit
set_option linter.unusedVariables false
set_option linter.unusedSimpArgs false
attribute [local go_sem ↓] run_min_two run_max_two run_cut_h run_cut_l


theorem NilOk.cut0 {a : Option Addr} {n c m : Nat} (h : NilOk (.slice a n c)) : NilOk (.slice (addS a c 0) m c) := h.cut (l := 0)
theorem nilOf {k : IntKind} {w : World} {a : Option Addr} {len cap : Nat} {zs : List Int} (h : (a = none ∧ len = 0 ∧ cap = 0 ∧ zs = []) ∨ ∃ x, a = some x ∧ len ≤ cap ∧ cap ≤ maxLen ∧ zs.length = cap ∧ (∀ i, i < zs.length → w.cell? (x.add i) = some (.int k (zs.getD i 0))) ∧ ∀ n ∈ zs, (Lit.int k n).wf = true) : a = none → cap = 0 := fun h0 => by
  rcases h with ⟨_, _, h, _⟩ | ⟨x, h, _⟩
  · exact h
  · rw [h0] at h; cases h

/-- What has been fed to both lies ahead of m. -/
def Both (w0 w : World) (d x : Nat) (xs : List Int) (m : Nat) (rest : Value) (s : List Int) : Prop :=
  m ≤ xs.length ∧ RP w0 w d s x s ∧ Rd w0 1 rest (xs.length - m) (bytesV (xs.drop m)) ∧ NilOk rest ∧ Waits s ∧ runD [] s = (s, []) ∧ ∀ x ∈ s, 0 ≤ x ∧ x ≤ 255

set_option maxRecDepth 100000 in
set_option maxHeartbeats 8000000 in
theorem UtfWrites_walk (a0 : Option Addr) (len0 cap0 : Nat) (a1 : Option Addr) (len1 cap1 : Nat) (w : World) (l0 l1 : List Int)
    (hr0 : Rd w 1 (.slice a0 len0 cap0) len0 (l0.map (Value.int .u8))) (hr1 : Rd w 1 (.slice a1 len1 cap1) len1 (l1.map (Value.int .i64))) (hl0 : l0.length = len0) (hl1 : l1.length = len1) (y0 : len0 * 1 ≤ 140737488351232) (y1 : len1 * 8 ≤ 140737488351232)
    (w0 : ∀ x ∈ l0, 0 ≤ x ∧ x ≤ 255) (w1 : ∀ x ∈ l1, -9223372036854775808 ≤ x ∧ x ≤ 9223372036854775807) (n0 : a0 = none → cap0 = 0) :
    Calls Try.prog 3 #[.slice a0 len0 cap0, .slice a1 len1 cap1] w fun e w' => e = .returned (.bool true) ∧ Chg w w' nob := by
  by_cases hl : len0 ≤ 2000 ∧ len1 ≤ 200
  · obtain ⟨hA, hB⟩ := hl
    subst hl0
    have HR1 := Lib.hid hr1
    have HW0 := Lib.hid w0
    have HR0 : Hid (Rd w 1 (.slice a0 l0.length cap0) l0.length (bytesV l0)) := Lib.hid hr0
    have HN0 : Hid (NilOk (.slice a0 l0.length cap0)) := Lib.hid (fun n c hv => by cases hv; exact n0 rfl)
    clear hr0 hr1 w0 w1 n0
    have hn0 : ¬ (2000 : Int) < (l0.length : Int) := by omega
    have hn1 : ¬ (200 : Int) < (len1 : Int) := by omega
    go_enter Try.func3, Try.ntmps3
    go_wp2_with fail
    go_at_call 9
    refine (ufirst_any w).mono ?_
    rintro e wA ⟨rfl, hwA⟩
    have HA := Lib.hid hwA
    clear hwA
    go_wp2_with fail
    go_at_call 10
    refine (d_new wA).mono ?_
    rintro e wB ⟨d, rfl, hB⟩
    have HB := Lib.hid (RP.make (DH.from HA.out hB))
    clear hB HA
    go_wp2_with fail
    generalize wB.heap.size = x at *
    generalize wB.alloc (.cells #[.slice none 0 0] 29) = wC at *
    have HD : Hid (Both w wC d x l0 0 (.slice a0 l0.length cap0) []) := Lib.hid ⟨Nat.zero_le _, HB.out, by simpa using HR0.out, HN0.out, Or.inl rfl, rfl, by simp⟩
    clear HB
    go_loopw [7, 8] (fun rest i wr => ∃ k m : Nat, k ≤ len1 + 1 ∧ i = .int .i64 k ∧ (k = len1 + 1 → m = l0.length) ∧ ∃ s, Hid (Both w wr d x l0 m rest s)) (fun _ i _ => len1 + 1 - (intOf i).toNat)
    case atStart => exact ⟨0, 0, by omega, rfl, by omega, _, HD⟩
    case round =>
      obtain ⟨k, m, hk, rfl, hkm, s, HF⟩ := hrel
      clear HD
      obtain ⟨hm, hrp, hrr, hnk, hwt, hvd, hsb⟩ := HF.out
      obtain ⟨ar, cr, rfl, hcr, _⟩ := hrr.form
      have HKM := Lib.hid hkm
      have HRP := Lib.hid hrp
      have HRR := Lib.hid hrr
      have HNK := Lib.hid hnk
      have HWT := Lib.hid hwt
      have HVD := Lib.hid hvd
      have HSB := Lib.hid hsb
      clear HF hrp hrr hnk hwt hvd hsb hkm
      generalize hp : l0.length - m = p at *
      by_cases hkl : k ≤ len1
      · have hki : (k : Int) ≤ (len1 : Int) := by omega
        go_upto_if 38 with (fail)
        go_cut [9] (fun v wx => ∃ n : Nat, n ≤ p ∧ v = .int .i64 n ∧ (k = len1 → n = p) ∧ wx = wr)
        case first =>
          by_cases hkc : k < len1
          · have hkc' : (k : Int) < (len1 : Int) := by omega
            obtain ⟨b1, o1, rfl, hc1⟩ := HR1.out.cell (j := k) (u := .int .i64 (l1.getD k 0)) (by simp [List.getD, hl1, hkc])
            have hc2 := HRP.out.chg.cell hc1 id
            generalize l1.getD k 0 = c at *
            go_wp2
            all_goals go_meet
            all_goals (first | exact ⟨0, by omega, rfl, by omega, rfl⟩ | exact ⟨p, by omega, rfl, by omega, rfl⟩ | exact ⟨(mnI (mxI c 0) p).toNat, by unfold mnI mxI; (repeat' split) <;> omega, by congr 1; unfold mnI mxI; (repeat' split) <;> omega, by omega, rfl⟩ | exact ⟨c.toNat, by omega, by congr 1; omega, by omega, rfl⟩)
          · have hkc' : ¬ (k : Int) < (len1 : Int) := by omega
            go_wp2
            go_meet
            exact ⟨p, Nat.le_refl _, rfl, fun _ => rfl, rfl⟩
        case rest =>
          obtain ⟨n, hn, rfl, hkn, rfl⟩ := hcut
          have HKN := Lib.hid hkn
          clear hkn
          have hn1 : (n : Int) ≤ (cr : Int) := by omega
          have hn2 : (n : Int) ≤ (p : Int) := by omega
          have hpl : ((l0.drop m).take n).length = n := by simp; omega
          have hx1 : Hid (Rd w 1 (.slice (addS ar cr 0) n cr) ((l0.drop m).take n).length (bytesV ((l0.drop m).take n))) := by
            have h := HRR.out.cut (l := 0) (m := n) (Nat.zero_le _) hn
            unfold Hid
            rw [hpl]; simpa [bytesV, List.map_take] using h
          have hpb : Hid (∀ x ∈ (l0.drop m).take n, 0 ≤ x ∧ x ≤ 255) := fun x hx => HW0.out x (List.mem_of_mem_drop (List.mem_of_mem_take hx))
          have hwt := runD_waits ((l0.drop m).take n) s HWT.out
          have hvd := valid_run ((l0.drop m).take n) s HVD.out
          have hl2 := runD_len ((l0.drop m).take n) s
          have hsb : ∀ z ∈ (runD s ((l0.drop m).take n)).1, 0 ≤ z ∧ z ≤ 255 := fun z hz => by
            rcases runD_mem _ _ hz with h | h
            · exact HSB.out z h
            · exact hpb.out z h
          rw [hpl] at hl2
          have HWT2 := Lib.hid hwt
          have HVD2 := Lib.hid hvd
          have HSB2 := Lib.hid hsb
          have hst : s.length ≤ 4 := by have := HWT.out.len; omega
          obtain ⟨bs, hbs⟩ : ∃ bs, (l0.drop m).take n = bs := ⟨_, rfl⟩
          rw [hbs] at hx1 hpb HWT2 HVD2 HSB2 hl2 hpl
          obtain ⟨⟨s2, o2⟩, hso⟩ : ∃ so, runD s bs = so := ⟨_, rfl⟩
          have HSO := Lib.hid hso
          clear hwt hvd hsb
          rw [hso] at HWT2 HVD2 HSB2 hl2
          clear hso hbs
          go_wp2_with fail
          refine wp_one [18] [4, 9, 10, 14] [(14, [18])] [0, 1, 2, 3, 5, 6, 7, 8, 4, 9, 10, 11, 12, 13, 15, 16, 17, 18, 19, 14, 20, 21] rfl (by kernel_rfl) (fun _ _ _ _ _ h => h) ?_; simp only [List.map_cons, List.map_nil, List.getElem?_toArray, List.getElem?_cons_zero, List.getElem?_cons_succ]
          (repeat (first | (apply can0; (· rfl); (· rfl); (· (intro w'; first | (go_simp; with_reducible rfl) | (go_simp; done))); simp only [Act.put, List.setIfInBounds_toArray, List.set_cons_zero, List.set_cons_succ]) | (apply can1; (· rfl); (· rfl); (· (first | (go_simp; with_reducible rfl) | (go_simp; done))); simp only [Act.put, List.setIfInBounds_toArray, List.set_cons_zero, List.set_cons_succ]) | (apply canN; (· rfl); (· rfl); simp only [Act.put, List.setIfInBounds_toArray, List.set_cons_zero, List.set_cons_succ]) | (apply canN1; (· rfl); (· rfl); simp only [Act.put, List.setIfInBounds_toArray, List.set_cons_zero, List.set_cons_succ]) | (apply can0; (· rfl); (· (go_simp; done)); (· (intro w'; first | (go_simp; with_reducible rfl) | (go_simp; done))); simp only [Act.put, List.setIfInBounds_toArray, List.set_cons_zero, List.set_cons_succ]) | (apply can1; (· rfl); (· (go_simp; done)); (· (first | (go_simp; with_reducible rfl) | (go_simp; done))); simp only [Act.put, List.setIfInBounds_toArray, List.set_cons_zero, List.set_cons_succ]) | (apply canN; (· rfl); (· (go_simp; done)); simp only [Act.put, List.setIfInBounds_toArray, List.set_cons_zero, List.set_cons_succ]) | (apply canN1; (· rfl); (· (go_simp; done)); simp only [Act.put, List.setIfInBounds_toArray, List.set_cons_zero, List.set_cons_succ])))
          refine canW rfl [] rfl (fun K hK => ?_)
          go_simp
          go_at_call 12
          refine (rp_dwrite (HRP.out.kept (Chg.refl wc nob).drew) HWT.out _ bs hx1.out hpb.out (by omega)).mono ?_
          rw [HSO.out]
          rintro e wE ⟨v1, rfl, ho1, hp1⟩
          have HO1 := Lib.hid ho1
          have HP1 := Lib.hid hp1
          clear ho1 hp1
          (refine hK _ _ (fun u hu => by cases hu) ?_; clear hK K; try simp only [Act.put, List.setIfInBounds_toArray, List.set_cons_zero, List.set_cons_succ])
          (repeat (first | (apply can0; (· rfl); (· rfl); (· (intro w'; first | (go_simp; with_reducible rfl) | (go_simp; done))); simp only [Act.put, List.setIfInBounds_toArray, List.set_cons_zero, List.set_cons_succ]) | (apply can1; (· rfl); (· rfl); (· (first | (go_simp; with_reducible rfl) | (go_simp; done))); simp only [Act.put, List.setIfInBounds_toArray, List.set_cons_zero, List.set_cons_succ]) | (apply canN; (· rfl); (· rfl); simp only [Act.put, List.setIfInBounds_toArray, List.set_cons_zero, List.set_cons_succ]) | (apply canN1; (· rfl); (· rfl); simp only [Act.put, List.setIfInBounds_toArray, List.set_cons_zero, List.set_cons_succ]) | (apply can0; (· rfl); (· (go_simp; done)); (· (intro w'; first | (go_simp; with_reducible rfl) | (go_simp; done))); simp only [Act.put, List.setIfInBounds_toArray, List.set_cons_zero, List.set_cons_succ]) | (apply can1; (· rfl); (· (go_simp; done)); (· (first | (go_simp; with_reducible rfl) | (go_simp; done))); simp only [Act.put, List.setIfInBounds_toArray, List.set_cons_zero, List.set_cons_succ]) | (apply canN; (· rfl); (· (go_simp; done)); simp only [Act.put, List.setIfInBounds_toArray, List.set_cons_zero, List.set_cons_succ]) | (apply canN1; (· rfl); (· (go_simp; done)); simp only [Act.put, List.setIfInBounds_toArray, List.set_cons_zero, List.set_cons_succ])))
          refine canW rfl [] rfl (fun K hK => ?_)
          go_simp
          go_at_call 13
          refine (rp_rwrite HP1.out HVD.out _ bs hx1.out HNK.out.cut0 (fun z hz => by rcases List.mem_append.1 hz with h | h; exact HSB.out z h; exact hpb.out z h) hst (by omega)).mono ?_
          rw [HSO.out]
          rintro e wF ⟨v2, rfl, ho2, hp2, hrow⟩
          have HO2 := Lib.hid (show Own wF 21 1 v1 o2.length (runesV o2) ∧ Own wF 21 1 v2 o2.length (runesV o2) from ⟨hrow _ _ _ HO1.out, ho2⟩)
          have HP2 := Lib.hid hp2
          clear ho2 hp2 hrow HP1 HO1
          have hl3 : o2.length ≤ 2 * n := hl2
          (refine hK _ _ (fun u hu => by cases hu) ?_; clear hK K; try simp only [Act.put, List.setIfInBounds_toArray, List.set_cons_zero, List.set_cons_succ])
          (repeat (first | (apply can0; (· rfl); (· rfl); (· (intro w'; first | (go_simp; with_reducible rfl) | (go_simp; done))); simp only [Act.put, List.setIfInBounds_toArray, List.set_cons_zero, List.set_cons_succ]) | (apply can1; (· rfl); (· rfl); (· (first | (go_simp; with_reducible rfl) | (go_simp; done))); simp only [Act.put, List.setIfInBounds_toArray, List.set_cons_zero, List.set_cons_succ]) | (apply canN; (· rfl); (· rfl); simp only [Act.put, List.setIfInBounds_toArray, List.set_cons_zero, List.set_cons_succ]) | (apply canN1; (· rfl); (· rfl); simp only [Act.put, List.setIfInBounds_toArray, List.set_cons_zero, List.set_cons_succ]) | (apply can0; (· rfl); (· (go_simp; done)); (· (intro w'; first | (go_simp; with_reducible rfl) | (go_simp; done))); simp only [Act.put, List.setIfInBounds_toArray, List.set_cons_zero, List.set_cons_succ]) | (apply can1; (· rfl); (· (go_simp; done)); (· (first | (go_simp; with_reducible rfl) | (go_simp; done))); simp only [Act.put, List.setIfInBounds_toArray, List.set_cons_zero, List.set_cons_succ]) | (apply canN; (· rfl); (· (go_simp; done)); simp only [Act.put, List.setIfInBounds_toArray, List.set_cons_zero, List.set_cons_succ]) | (apply canN1; (· rfl); (· (go_simp; done)); simp only [Act.put, List.setIfInBounds_toArray, List.set_cons_zero, List.set_cons_succ])))
          refine canW rfl [] rfl (fun K hK => ?_)
          go_simp
          go_at_call 11
          refine (runes_eq wF v1 v2 o2 o2 HO2.out.1.rd HO2.out.2.rd (by omega) (by omega)).mono ?_
          rintro e wG ⟨rfl, hG⟩
          rw [decide_eq_true rfl]
          have HP3 := Lib.hid (HP2.out.kept hG)
          obtain ⟨ap, cp, hcp⟩ := HP3.out.cell
          clear hG HP2 HO2
          (refine hK _ _ (fun u hu => by cases hu) ?_; clear hK K; try simp only [Act.put, List.setIfInBounds_toArray, List.set_cons_zero, List.set_cons_succ])
          (repeat (first | (apply can0; (· rfl); (· rfl); (· (intro w'; first | (go_simp; with_reducible rfl) | (go_simp; done))); simp only [Act.put, List.setIfInBounds_toArray, List.set_cons_zero, List.set_cons_succ]) | (apply can1; (· rfl); (· rfl); (· (first | (go_simp; with_reducible rfl) | (go_simp; done))); simp only [Act.put, List.setIfInBounds_toArray, List.set_cons_zero, List.set_cons_succ]) | (apply canN; (· rfl); (· rfl); simp only [Act.put, List.setIfInBounds_toArray, List.set_cons_zero, List.set_cons_succ]) | (apply canN1; (· rfl); (· rfl); simp only [Act.put, List.setIfInBounds_toArray, List.set_cons_zero, List.set_cons_succ]) | (apply can0; (· rfl); (· (go_simp; done)); (· (intro w'; first | (go_simp; with_reducible rfl) | (go_simp; done))); simp only [Act.put, List.setIfInBounds_toArray, List.set_cons_zero, List.set_cons_succ]) | (apply can1; (· rfl); (· (go_simp; done)); (· (first | (go_simp; with_reducible rfl) | (go_simp; done))); simp only [Act.put, List.setIfInBounds_toArray, List.set_cons_zero, List.set_cons_succ]) | (apply canN; (· rfl); (· (go_simp; done)); simp only [Act.put, List.setIfInBounds_toArray, List.set_cons_zero, List.set_cons_succ]) | (apply canN1; (· rfl); (· (go_simp; done)); simp only [Act.put, List.setIfInBounds_toArray, List.set_cons_zero, List.set_cons_succ])))
          refine canW rfl [18] rfl (fun K hK => ?_)
          go_simp
          go_at_call 14
          refine (d_pending HP3.out.left).mono ?_
          rintro e w' ⟨rfl, rfl⟩
          have hss : ((s2.length : Int) != (s2.length : Int)) = false := by simp
          (refine hK _ _ (fun u hu => by simp only [List.mem_cons, List.not_mem_nil, or_false] at hu; (first | (subst hu; exact reRun_mk rfl (by first | (go_simp; with_reducible rfl) | (go_simp; done)) (holds_at rfl)) | (rcases hu with rfl | rfl <;> exact reRun_mk rfl (by first | (go_simp; with_reducible rfl) | (go_simp; done)) (holds_at rfl)) | (rcases hu with rfl | rfl | rfl <;> exact reRun_mk rfl (by first | (go_simp; with_reducible rfl) | (go_simp; done)) (holds_at rfl)))) ?_; clear hK K; try simp only [Act.put, List.setIfInBounds_toArray, List.set_cons_zero, List.set_cons_succ])
          (repeat (first | (apply can0; (· rfl); (· rfl); (· (intro w'; first | (go_simp; with_reducible rfl) | (go_simp; done))); simp only [Act.put, List.setIfInBounds_toArray, List.set_cons_zero, List.set_cons_succ]) | (apply can1; (· rfl); (· rfl); (· (first | (go_simp; with_reducible rfl) | (go_simp; done))); simp only [Act.put, List.setIfInBounds_toArray, List.set_cons_zero, List.set_cons_succ]) | (apply canN; (· rfl); (· rfl); simp only [Act.put, List.setIfInBounds_toArray, List.set_cons_zero, List.set_cons_succ]) | (apply canN1; (· rfl); (· rfl); simp only [Act.put, List.setIfInBounds_toArray, List.set_cons_zero, List.set_cons_succ]) | (apply can0; (· rfl); (· (go_simp; done)); (· (intro w'; first | (go_simp; with_reducible rfl) | (go_simp; done))); simp only [Act.put, List.setIfInBounds_toArray, List.set_cons_zero, List.set_cons_succ]) | (apply can1; (· rfl); (· (go_simp; done)); (· (first | (go_simp; with_reducible rfl) | (go_simp; done))); simp only [Act.put, List.setIfInBounds_toArray, List.set_cons_zero, List.set_cons_succ]) | (apply canN; (· rfl); (· (go_simp; done)); simp only [Act.put, List.setIfInBounds_toArray, List.set_cons_zero, List.set_cons_succ]) | (apply canN1; (· rfl); (· (go_simp; done)); simp only [Act.put, List.setIfInBounds_toArray, List.set_cons_zero, List.set_cons_succ])))
          refine canE ?_
          have hrr5 : Rd w 1 (.slice (addS ar cr n) (p - n) (cr - n)) (l0.length - (m + n)) (bytesV (l0.drop (m + n))) := by
            have h := HRR.out.cut (l := n) (m := p) hn (Nat.le_refl _)
            have e : l0.length - (m + n) = p - n := by omega
            have e2 : (bytesV (l0.drop m)).take p = bytesV (l0.drop m) := List.take_of_length_le (by simp [bytesV]; omega)
            rw [e2] at h
            rw [e, ← List.drop_drop]
            simpa [bytesV, List.map_drop] using h
          have HF5 := Lib.hid (show Both w w' d x l0 (m + n) (.slice (addS ar cr n) (p - n) (cr - n)) s2 from ⟨by omega, HP3.out, hrr5, HNK.out.cut, HWT2.out, HVD2.out, HSB2.out⟩)
          clear hrr5
          go_wp2
          go_roundw
          case rel =>
            refine ⟨k + 1, m + n, by omega, by go_num, fun h => ?_, _, HF5⟩
            have := HKN.out (by omega)
            omega
          case measure => simp [intOf]; omega
      · obtain rfl : k = len1 + 1 := by omega
        have hki2 : ¬ ((len1 : Int) + 1 ≤ (len1 : Int)) := by omega
        go_wp2_with fail
        go_at_call 9
        refine (ufirst_any wr).mono ?_
        rintro e wF ⟨rfl, hwF⟩
        have HP2 := Lib.hid (HRP.out.kept hwF)
        clear hwF HRP HRR HKM
        go_wp2_with fail
        go_at_call 15
        refine (rp_dflush HP2.out).mono ?_
        rintro e wG ⟨v1, rfl, ho1, hp1⟩
        have HO1 := Lib.hid ho1
        have HP3 := Lib.hid hp1
        clear ho1 hp1 HP2
        go_wp2_with fail
        go_at_call 16
        refine (rp_rflush HP3.out).mono ?_
        rintro e wI ⟨v2, rfl, ho2, hp2, hrow⟩
        have HO2 := Lib.hid (show Own wI 21 1 v1 (flushD s).length (runesV (flushD s)) ∧ Own wI 21 1 v2 (flushD s).length (runesV (flushD s)) from ⟨hrow _ _ _ HO1.out, ho2⟩)
        have HP4 := Lib.hid hp2
        clear ho2 hp2 hrow HP3 HO1
        have hfl : (flushD s).length ≤ 1 := by unfold flushD; split <;> simp
        go_wp2_with fail
        go_at_call 11
        refine (runes_eq wI v1 v2 (flushD s) (flushD s) HO2.out.1.rd HO2.out.2.rd (by omega) (by omega)).mono ?_
        rintro e wJ ⟨rfl, hJ⟩
        rw [decide_eq_true rfl]
        have HP5 := Lib.hid (HP4.out.kept hJ)
        clear hJ HP4 HO2
        go_wp2_with fail
        go_at_call 14
        refine (d_pending HP5.out.left).mono ?_
        rintro e w' ⟨rfl, rfl⟩
        go_wp2_with fail
        go_at_call 15
        refine (rp_dflush HP5.out).mono ?_
        rintro e wK ⟨v3, rfl, ho3, hp3⟩
        have ho3' : Own wK 21 1 v3 0 [] := ho3
        obtain ⟨a3, c3, rfl, _⟩ := ho3'.form
        have HP6 := Lib.hid hp3
        clear ho3 ho3' hp3
        go_wp2
        go_ret
        exact ⟨rfl, HP6.out.chg⟩
  · by_cases hA : len0 ≤ 2000
    · have hn0 : ¬ (2000 : Int) < (len0 : Int) := by omega
      have hn1 : (200 : Int) < (len1 : Int) := by omega
      go_enter Try.func3, Try.ntmps3
      go_wp2_with fail
      go_at_call 9
      refine (ufirst_any w).mono ?_
      rintro e wA ⟨rfl, hwA⟩
      have HA := Lib.hid hwA
      clear hwA
      go_wp2_with fail
      go_at_call 9
      refine (ufirst_any _).mono ?_
      rintro e wB ⟨rfl, hwB⟩
      go_wp2
      go_ret
      exact ⟨rfl, HA.out.trans hwB fun _ _ h => h⟩
    · have hn0 : (2000 : Int) < (len0 : Int) := by omega
      go_enter Try.func3, Try.ntmps3
      go_wp2_with fail
      go_at_call 9
      refine (ufirst_any w).mono ?_
      rintro e wA ⟨rfl, hwA⟩
      have HA := Lib.hid hwA
      clear hwA
      go_wp2_with fail
      go_at_call 9
      refine (ufirst_any _).mono ?_
      rintro e wB ⟨rfl, hwB⟩
      go_wp2
      go_ret
      exact ⟨rfl, HA.out.trans hwB fun _ _ h => h⟩
end Go.Proofs.Ytfcgjnmbbgioiaa
