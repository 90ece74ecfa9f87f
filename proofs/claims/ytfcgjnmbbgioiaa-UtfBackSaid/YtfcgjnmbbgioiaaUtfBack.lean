/-
  Chapter 3: the walk of UtfBack.
-/
import Derived.Test.YtfcgjnmbbgioiaaUtf8
import Derived.Deep.DeepCutAuto
import Derived.Deep.CutBlock
namespace Go.Proofs.Ytfcgjnmbbgioiaa
open Go.RowKit
set_option linter.unusedVariables false
set_option linter.unusedSimpArgs false

/-- Signs of the law's own. -/
def Rx (w0 w : World) (v : Value) (L : List Int) : Prop := Own w 21 1 v L.length (runesV L) ∧ ∀ k, blkOf v k → w0.heap.size ≤ k
theorem Rx.kept {w0 w w' : World} {v : Value} {L : List Int} (h : Rx w0 w v L) (hc : Chg w w' nob) : Rx w0 w' v L := ⟨h.1.kept hc (fun _ _ => id), h.2⟩

set_option maxRecDepth 100000 in
set_option maxHeartbeats 8000000 in
theorem UtfBack_walk (a0 : Option Addr) (len0 cap0 : Nat) (w : World) (l0 : List Int)
    (hr0 : Rd w 1 (.slice a0 len0 cap0) len0 (l0.map (Value.int .i32))) (hl0 : l0.length = len0) (y0 : len0 * 4 ≤ 140737488351232)
    (w0 : ∀ x ∈ l0, -2147483648 ≤ x ∧ x ≤ 2147483647) :
    Calls Try.prog 6 #[.slice a0 len0 cap0] w fun e w' => e = .returned (.bool true) ∧ Chg w w' nob := by
  by_cases hl : len0 ≤ 2000
  · subst hl0
    have HW0 := Lib.hid w0
    have HR0 : Hid (Rd w 1 (.slice a0 l0.length cap0) l0.length (runesV l0)) := Lib.hid hr0
    clear hr0 w0
    have hn0 : ¬ (2000 : Int) < (l0.length : Int) := by omega
    go_enter Try.func6, Try.ntmps6
    go_wp2_with fail
    go_at_call 9
    refine (ufirst_any w).mono ?_
    rintro e wA ⟨rfl, hA⟩
    have HA := Lib.hid hA
    clear hA
    go_wp2_with fail
    go_at_call 10
    refine (d_new wA).mono ?_
    rintro e wB ⟨d, rfl, hB⟩
    have HB := Lib.hid (DH.from HA.out hB)
    clear hB HA
    go_wp2_with fail
    go_loopw [4, 5] (fun v i wr => ∃ k : Nat, k ≤ l0.length ∧ i = .int .i64 k ∧ Hid (Rx w wr v ((l0.take k).map fixR) ∧ DH w wr d [])) (fun _ i _ => l0.length - (intOf i).toNat)
    case atStart => exact ⟨0, Nat.zero_le _, rfl, ⟨World.ownsRow_nil wB 0 21 1, fun k hk => by cases hk⟩, HB.out⟩
    case round =>
      obtain ⟨k, hk, rfl, HI⟩ := hrel
      clear HB
      by_cases hkl : k < l0.length
      · have hki : (k : Int) < (l0.length : Int) := by omega
        obtain ⟨g, o, rfl, hcx⟩ := HR0.out.cell (j := k) (u := .int .i32 (l0.getD k 0)) (by simp [runesV, List.getD, hkl])
        have hcr := HI.out.2.chg.cell hcx id
        have hsn : (l0.take (k + 1)).map fixR = (l0.take k).map fixR ++ [fixR (l0.getD k 0)] := by rw [take_snoc hkl (0 : Int), List.map_append]; rfl
        have hrb := HW0.out (l0.getD k 0) (by simp [List.getD, hkl])
        have hll : ((l0.take k).map fixR).length ≤ 2000 := by rw [List.length_map, List.length_take]; omega
        generalize l0.getD k 0 = r at *
        have HSN := Lib.hid hsn
        clear hsn hcx
        generalize (l0.take k).map fixR = L at *
        go_upto_region 13 with (fail)
        go_cut [41] (fun c wx => ∃ bb, c = .bool bb ∧ Hid (isSign r = !bb) ∧ wx = wr)
        case first =>
          rcases (show r < 0 ∨ 1114111 < r ∨ (55296 ≤ r ∧ r ≤ 57343) ∨ (0 ≤ r ∧ r < 55296) ∨ (57343 < r ∧ r ≤ 1114111) by omega) with h | h | ⟨h, h'⟩ | ⟨h, h'⟩ | ⟨h, h'⟩
          all_goals go_wp2
          all_goals go_meet
          all_goals (refine ⟨!isSign r, ?_, Lib.hid (by simp), rfl⟩; congr 1; rw [Bool.eq_iff_iff]; simp [isSign]; omega)
        case rest =>
        obtain ⟨bb, rfl, HBB, rfl⟩ := hcut
        go_upto_if 41 with (fail)
        go_cut [6] (fun v wx => v = .int .i32 (fixR r) ∧ wx = wc)
        case first =>
          cases bb
          · have hf : fixR r = r := by unfold fixR; rw [if_pos (by rw [HBB.out]; rfl)]
            go_wp2
            go_meet
            exact ⟨by rw [hf], rfl⟩
          · have hf : fixR r = 65533 := by unfold fixR; rw [if_neg (by rw [HBB.out]; simp)]
            go_wp2
            go_meet
            exact ⟨by rw [hf], rfl⟩
        case rest =>
          obtain ⟨rfl, rfl⟩ := hcut
          have hsg := fixR_b r
          generalize fixR r = s at *
          go_wp2_with (at_builtin; refine wpList_push rfl (.tmp 42) (.tmp 44) 31 rfl 21 (.int .i32 0) 1 4 i_rune u_runes rfl (by decide) _ L.length _ rfl HI.out.1.1 1 1 rfl rfl rfl (by unfold maxLen; omega) (by omega) ?_)
          intro v5 w5 ho5 hch5 hfo5
          have HI5 : Hid (Rx w w5 v5 ((l0.take (k + 1)).map fixR) ∧ DH w w5 d []) := Lib.hid (by
            rw [HSN.out]
            obtain ⟨⟨h1, h2⟩, F, h3, h4, h5⟩ := HI.out
            refine ⟨⟨by simpa [runesV] using ho5, fun k hk => ?_⟩, F, h3.kept hch5 (fun k hF hb => h3.apart h1 hb hF), h4.trans hch5 (fun i hi h => by have := h2 i h; omega), h5⟩
            rcases hfo5 k hk with h | h
            · exact h2 k h
            · exact Nat.le_trans h4.size h)
          clear ho5 hch5 hfo5
          go_wp2
          go_roundw
          case rel => exact ⟨k + 1, by omega, by go_num, HI5⟩
          case measure => simp [intOf]; omega
      · obtain rfl : k = l0.length := by omega
        rw [List.take_length] at HI
        have hlb := encL_len l0
        go_wp2_with fail
        go_at_call 20
        refine (encode_any wr _ l0 (HR0.out.kept HI.out.2.chg fun _ _ => id) HW0.out (by omega)).mono ?_
        rintro e wC ⟨vb, rfl, hoC, hcC, hbC⟩
        have HC := Lib.hid (show Own wC 5 1 vb (encL l0).length (bytesV (encL l0)) ∧ Rx w wC _ (l0.map fixR) ∧ DH w wC d [] from ⟨hoC, HI.out.1.kept hcC, HI.out.2.kept hcC⟩)
        have HMD := Lib.hid (DH.made HI.out.2 hcC hbC)
        clear hoC hcC hbC HI
        go_wp2_with fail
        go_at_call 12
        refine (d_write HC.out.2.2 (Or.inl rfl) _ (encL l0) HC.out.1.rd HMD.out (encL_byte l0) (by omega)).mono ?_
        rw [run_encL]
        rintro e wD ⟨vg, rfl, hoD, hdD, hrow, -, F, hF1, hF2, hF3⟩
        have hvb := HC.out.1.kept hF3 (fun k hk => HMD.out F hF1 hF2 k hk)
        have hwt := hrow _ _ _ HC.out.2.1.1
        have HD := Lib.hid (show Own wD 5 1 vb (encL l0).length (bytesV (encL l0)) ∧ Own wD 21 1 _ (l0.map fixR).length (runesV (l0.map fixR)) ∧ Own wD 21 1 vg (l0.map fixR).length (runesV (l0.map fixR)) ∧ DH w wD d [] from ⟨hvb, hwt, hoD, hdD⟩)
        clear hvb hwt hoD hdD hrow hF1 hF2 hF3 HC HMD
        go_wp2_with fail
        go_at_call 9
        refine (ufirst_any wD).mono ?_
        rintro e wE ⟨rfl, hE⟩
        have HE := Lib.hid (show Own wE 5 1 vb (encL l0).length (bytesV (encL l0)) ∧ Own wE 21 1 _ (l0.map fixR).length (runesV (l0.map fixR)) ∧ Own wE 21 1 vg (l0.map fixR).length (runesV (l0.map fixR)) ∧ DH w wE d [] from ⟨HD.out.1.kept hE (fun _ _ => id), HD.out.2.1.kept hE (fun _ _ => id), HD.out.2.2.1.kept hE (fun _ _ => id), HD.out.2.2.2.kept hE⟩)
        clear hE HD
        have hlm : (l0.map fixR).length ≤ 2000 := by rw [List.length_map]; omega
        go_wp2_with fail
        go_at_call 11
        refine (runes_eq wE vg _ (l0.map fixR) (l0.map fixR) HE.out.2.2.1.rd HE.out.2.1.rd (by omega) (by omega)).mono ?_
        rintro e wF ⟨rfl, hF⟩
        rw [decide_eq_true rfl]
        have HF := Lib.hid (show Own wF 5 1 vb (encL l0).length (bytesV (encL l0)) ∧ Own wF 21 1 vg (l0.map fixR).length (runesV (l0.map fixR)) ∧ DH w wF d [] from ⟨HE.out.1.kept hF (fun _ _ => id), HE.out.2.2.1.kept hF (fun _ _ => id), HE.out.2.2.2.kept hF⟩)
        clear hF HE
        go_wp2_with fail
        go_at_call 14
        refine (d_pending HF.out.2.2).mono ?_
        rintro e w' ⟨rfl, rfl⟩
        go_wp2_with fail
        go_at_call 20
        refine (encode_any _ vg (l0.map fixR) HF.out.2.1.rd (fun x hx => by obtain ⟨r, _, rfl⟩ := List.mem_map.1 hx; exact fixR_b r) (by omega)).mono ?_
        rw [encL_fix]
        rintro e wG ⟨vc, rfl, hoG, hcG, -⟩
        have HG := Lib.hid (show Own wG 5 1 vb (encL l0).length (bytesV (encL l0)) ∧ Own wG 5 1 vc (encL l0).length (bytesV (encL l0)) ∧ Chg w wG nob from ⟨HF.out.1.kept hcG (fun _ _ => id), hoG, HF.out.2.2.chg.trans hcG fun _ _ h => h⟩)
        clear hoG hcG HF
        go_wp2_with fail
        go_at_call 19
        refine (bytes_eq wG vc vb (encL l0) (encL l0) HG.out.2.1.rd HG.out.1.rd (encL_byte l0) (encL_byte l0)).mono ?_
        rintro e w' ⟨rfl, rfl⟩
        rw [decide_eq_true rfl]
        go_wp2
        go_ret
        exact ⟨rfl, HG.out.2.2⟩
  · have hn0 : (2000 : Int) < (len0 : Int) := by omega
    go_enter Try.func6, Try.ntmps6
    go_wp2_with fail
    go_at_call 9
    refine (ufirst_any w).mono ?_
    rintro e wA ⟨rfl, hA⟩
    have HA := Lib.hid hA
    clear hA
    go_wp2_with fail
    go_at_call 9
    refine (ufirst_any wA).mono ?_
    rintro e wB ⟨rfl, hB⟩
    go_wp2
    go_ret
    exact ⟨rfl, HA.out.trans hB fun _ _ h => h⟩
end Go.Proofs.Ytfcgjnmbbgioiaa
