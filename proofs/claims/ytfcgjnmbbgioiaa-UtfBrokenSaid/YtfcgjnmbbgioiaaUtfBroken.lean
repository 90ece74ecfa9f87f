/-
  Chapter 3: the walk of UtfBroken.
-/
import Derived.Test.YtfcgjnmbbgioiaaUtf8
import Derived.Deep.DeepCutAuto
import Derived.Deep.CutBlock
namespace Go.Proofs.Ytfcgjnmbbgioiaa
open Go.RowKit
set_option linter.unusedVariables false
set_option linter.unusedSimpArgs false
attribute [local go_sem ↓] run_cut_h run_cut_l


set_option maxRecDepth 100000 in
set_option maxHeartbeats 8000000 in
theorem UtfBroken_walk (a0 a1 : Int) (a2 : Option Addr) (len2 cap2 : Nat) (w : World) (l2 : List Int)
    (w0 : -2147483648 ≤ a0 ∧ a0 ≤ 2147483647) (w1 : -9223372036854775808 ≤ a1 ∧ a1 ≤ 9223372036854775807)
    (hr2 : Rd w 1 (.slice a2 len2 cap2) len2 (l2.map (Value.int .u8))) (hl2 : l2.length = len2) (y2 : len2 * 1 ≤ 140737488351232)
    (w2 : ∀ x ∈ l2, 0 ≤ x ∧ x ≤ 255) :
    Calls Try.prog 8 #[.int .i32 a0, .int .i64 a1, .slice a2 len2 cap2] w fun e w' => e = .returned (.bool true) ∧ Chg w w' nob := by
  subst hl2
  have HW2 := Lib.hid w2
  have HR2 : Hid (Rd w 1 (.slice a2 l2.length cap2) l2.length (bytesV l2)) := Lib.hid hr2
  clear hr2 w2
  go_enter Try.func8, Try.ntmps8
  go_wp2_with fail
  go_at_call 9
  refine (ufirst_any w).mono ?_
  rintro e wA ⟨rfl, hwA⟩
  have HA := Lib.hid hwA
  clear hwA
  go_wp2_with fail
  go_at_call 20
  refine (encode_any _ _ [a0] (Rd.made wA 21 #[.int .i32 a0] (by rfl) (Nat.le_refl _)) (by simpa using w0) (by simp)).mono ?_
  have hel : encL [a0] = encS (fixR a0) := by simp [encL, encR]
  rw [hel]
  clear hel
  rintro e wB ⟨vb, rfl, hoB, hcB, hbB⟩
  have hsg := fixR_sign a0
  have hle := encS_le (fixR a0)
  have hby := encS_byte hsg
  have hcut := fun n => run_cut (n := n) hsg
  generalize encS (fixR a0) = E at *
  have HB := Lib.hid (show Own wB 5 1 vb E.length (bytesV E) ∧ Chg w wB nob ∧ (∀ k, blkOf vb k → w.heap.size ≤ k) from ⟨hoB, (HA.out.alloc _).trans hcB (fun _ _ h => h), fun k hk => Nat.le_trans (HA.out.alloc _).size (hbB k hk)⟩)
  have HE := Lib.hid hby
  have HCUT := Lib.hid hcut
  obtain ⟨ab, cb, rfl, hcb, _⟩ := hoB.form
  clear hoB hcB hbB hby hcut hsg HA
  have hle1 := hle.1
  have hle2 := hle.2
  clear hle
  by_cases hg : 2 ≤ E.length ∧ 1 ≤ a1 ∧ a1 < E.length ∧ l2.length ≤ 500
  · obtain ⟨g1, g2, g3, g4⟩ := hg
    obtain ⟨n, rfl⟩ := Int.eq_ofNat_of_zero_le (show 0 ≤ a1 by omega)
    have k1 : ¬ (E.length : Int) < 2 := by omega
    have k2 : ¬ (n : Int) < 1 := by omega
    have k3 : ¬ (E.length : Int) ≤ (n : Int) := by omega
    have k4 : ¬ (500 : Int) < (l2.length : Int) := by omega
    have k5 : n < E.length := by omega
    by_cases hp : ∀ x ∈ l2, x ≤ 126
    · have hcell : ∀ k, k < l2.length → ∃ b o, a2 = some ⟨b, o, none⟩ ∧ w.cell? ⟨b, o + k, none⟩ = some (.int .u8 (l2.getD k 0)) ∧ l2.getD k 0 ≤ 126 := fun k hk => by
        obtain ⟨b, o, h1, h2⟩ := HR2.out.cell (j := k) (u := .int .u8 (l2.getD k 0)) (by simp [bytesV, List.getD, hk])
        exact ⟨b, o, h1, h2, hp _ (by simp [List.getD, hk])⟩
      have HP : Hid (∀ x ∈ l2, 0 ≤ x ∧ x ≤ 126) := Lib.hid fun x hx => ⟨(HW2.out x hx).1, hp x hx⟩
      have HC := Lib.hid hcell
      clear hp hcell
      go_wp2_with fail
      go_loopw [8] (fun i wr => ∃ k : Nat, k ≤ l2.length ∧ i = .int .i64 k ∧ wr = wB) (fun i _ => l2.length - (intOf i).toNat)
      case atStart => exact ⟨0, Nat.zero_le _, rfl, rfl⟩
      case round =>
        obtain ⟨k, hk, rfl, rfl⟩ := hrel
        by_cases hkl : k < l2.length
        · have hki : (k : Int) < (l2.length : Int) := by omega
          obtain ⟨b, o, rfl, h2, h3⟩ := HC.out k hkl
          have h4 := HB.out.2.1.cell h2 id
          generalize l2.getD k 0 = c at *
          have h5 : ¬ 126 < c := by omega
          go_wp2
          go_roundw
          case rel => exact ⟨k + 1, by omega, by go_num, by first | rfl | trivial⟩
          case measure => simp [intOf]; omega
        · obtain rfl : k = l2.length := by omega
          go_wp2_with fail
          go_at_call 10
          refine (d_new _).mono ?_
          rintro e wC ⟨d, rfl, hC⟩
          have hob : Hid (∀ k, blkOf (.slice (addS ab cb 0) n cb) k → k < wr.heap.size) := fun k hk => HB.out.1.lt (addS_blk hk)
          have hrb : Hid (Rd wC 1 (.slice (addS ab cb 0) n cb) (E.take n).length (bytesV (E.take n))) := by
            have h := (HB.out.1.rd.kept hC.chg (fun _ _ => id)).cut (l := 0) (m := n) (Nat.zero_le _) (by omega)
            have e : (E.take n).length = n := by simp; omega
            unfold Hid
            rw [e]; simpa [bytesV, List.map_take] using h
          have HD := Lib.hid hC
          clear hC
          have hn1 : (n : Int) ≤ (cb : Int) := by omega
          go_wp2_with fail
          go_at_call 12
          refine (d_write HD.out (Or.inl rfl) _ (E.take n) hrb.out (fun _ => DH.old hob.out) (fun x hx => HE.out x (List.mem_of_mem_take hx)) (by simp; omega)).mono ?_
          have hwt := runD_waits (E.take n) [] (Or.inl rfl)
          rw [HCUT.out n k5] at hwt ⊢
          rintro e wD ⟨v, rfl, hoD, hdD, -, -, -⟩
          have hsl : ((E.take n).length : Int) = (n : Int) := by simp; omega
          have hs0 : Hid (E.take n ≠ []) := Lib.hid (by intro h; rw [h] at hsl; simp at hsl; omega)
          have HSL := Lib.hid hsl
          have HWT := Lib.hid hwt
          have HDD := Lib.hid hdD
          clear hwt hdD HD hrb hob hsl
          obtain ⟨av, cv, rfl, _⟩ := hoD.form
          clear hoD
          generalize E.take n = s at *
          go_wp2_with fail
          go_at_call 14
          refine (d_pending HDD.out).mono ?_
          rintro e w' ⟨rfl, rfl⟩
          rw [HSL.out]
          have hnn : ((n : Int) != (n : Int)) = false := by simp
          go_wp2_with fail
          go_at_call 12
          refine (d_write HDD.out HWT.out _ l2 (HR2.out.kept (HB.out.2.1.trans HDD.out.chg fun _ _ h => h) fun _ _ => id) (fun h0 => DH.old (fun k hk => Nat.lt_of_lt_of_le (HR2.out.lt (by simpa [bytesV] using h0) hk) HB.out.2.1.size)) HW2.out (by omega)).mono ?_
          by_cases h0 : l2 = []
          · subst h0
            have hr0 : runD s [] = (s, []) := rfl
            rw [hr0]
            rintro e wE ⟨m, rfl, hoE, hdE, -, -, -⟩
            obtain ⟨am, cm, rfl, _⟩ := hoE.form
            have HDE := Lib.hid hdE
            clear hoE hdE HDD
            go_wp2_with fail
            go_at_call 9
            refine (ufirst_any wE).mono ?_
            rintro e wF ⟨rfl, hwF⟩
            have HDF := Lib.hid (HDE.out.kept hwF)
            clear hwF HDE
            go_wp2_with fail
            go_at_call 15
            refine (d_flush HDF.out).mono ?_
            have hfl : flushD s = [65533] := by unfold flushD; rw [if_neg hs0.out]
            rw [hfl]
            clear hfl
            rintro e wG ⟨vf, rfl, hoG, hdG, -, hcG⟩
            obtain ⟨af, cf, rfl, _⟩ := hoG.form
            have HCG := Lib.hid hcG
            clear hoG hdG hcG HDF
            go_wp2
            go_ret
            exact ⟨rfl, HB.out.2.1.trans HCG.out fun _ _ h => h⟩
          · rw [run_broken hs0.out l2 h0 HP.out]
            rintro e wE ⟨m, rfl, hoE, hdE, -, -, -⟩
            have hoE2 : Own wE 21 1 m (l2.length + 1) (runesV (65533 :: l2)) := hoE
            obtain ⟨am, cm, rfl, hcm, _⟩ := hoE2.form
            have hM : ∀ k, k < l2.length → ∃ g, am = some ⟨g, 0, none⟩ ∧ wE.cell? ⟨g, k + 1, none⟩ = some (.int .i32 (l2.getD k 0)) := fun k hk => by
              obtain ⟨g, h1, h2⟩ := hoE2.at (j := k + 1) (by omega)
              exact ⟨g, h1, by rw [h2]; simp [runesV, List.getD, hk]⟩
            obtain ⟨g, rfl, hc0⟩ := hoE2.at (j := 0) (by omega)
            have hc0' : wE.cell? ⟨g, 0, none⟩ = some (.int .i32 65533) := by rw [hc0]; rfl
            have HM : Hid (∀ k, k < l2.length → wE.cell? ⟨g, k + 1, none⟩ = some (.int .i32 (l2.getD k 0))) := Lib.hid fun k hk => by obtain ⟨g', h1, h2⟩ := hM k hk; cases h1; exact h2
            have HDE : Hid (DH wr wE d []) := Lib.hid hdE
            have hlp : (0 : Int) < (l2.length : Int) := by cases l2 with | nil => exact absurd rfl h0 | cons _ _ => simp
            have hle0 : ((l2.length : Int) == 0) = false := by simp; exact h0
            clear hoE hoE2 hdE hM hc0 h0 HDD
            generalize hMM : l2.length + 1 = M at *
            have hq : ((M : Int) != 1 + (l2.length : Int)) = false := by simp; omega
            have hM0 : (0 : Int) < (M : Int) := by omega
            have HMM := Lib.hid hMM
            clear hMM
            go_wp2_with fail
            go_at_call 14
            refine (d_pending HDE.out).mono ?_
            rintro e w'' ⟨rfl, rfl⟩
            go_wp2_with fail
            go_loopw [12] (fun i wr' => ∃ k : Nat, k ≤ l2.length ∧ i = .int .i64 k ∧ Hid (DH wr wr' d [] ∧ Chg w'' wr' nob)) (fun i _ => l2.length - (intOf i).toNat)
            case atStart => exact ⟨0, Nat.zero_le _, rfl, HDE.out, Chg.refl _ _⟩
            case round =>
              obtain ⟨k, hk, rfl, HI⟩ := hrel
              by_cases hkl : k < l2.length
              · have hki : (k : Int) < (l2.length : Int) := by omega
                obtain ⟨b, o, rfl, h2, h3⟩ := HC.out k hkl
                have h4 := (HB.out.2.1.trans HI.out.1.chg fun _ _ h => h).cell h2 id
                have h5 := HI.out.2.cell (HM.out k hkl) id
                have h6 := HW2.out (l2.getD k 0) (by simp [List.getD, hkl])
                generalize l2.getD k 0 = c at *
                clear h2
                have hcw : (c != IntKind.i32.wrap c) = false := by rw [wraps_i32 c (by omega) (by omega)]; simp
                have hkM : (k : Int) + 1 < (M : Int) := by have := HMM.out; omega
                have hk0 : 0 ≤ (k : Int) + 1 := by omega
                have hwr : IntKind.i64.wrap ((k : Int) + 1) = (k : Int) + 1 := by simp only [IntKind.wrap, IntKind.bits, IntKind.signed]; simp; omega
                go_wp2_with fail
                refine wp_one [4, 8] [9] [(9, [4])] [0, 1, 2, 3, 4, 5, 6, 7, 8, 9, 10] rfl (by kernel_rfl) (fun _ _ _ _ _ h => h) ?_; simp only [List.map_cons, List.map_nil, List.getElem?_toArray, List.getElem?_cons_zero, List.getElem?_cons_succ]
                (repeat (first | (apply can0; (· rfl); (· rfl); (· (intro w'; first | (go_simp; with_reducible rfl) | (go_simp; done))); simp only [Act.put, List.setIfInBounds_toArray, List.set_cons_zero, List.set_cons_succ]) | (apply can1; (· rfl); (· rfl); (· (first | (go_simp; with_reducible rfl) | (go_simp; done))); simp only [Act.put, List.setIfInBounds_toArray, List.set_cons_zero, List.set_cons_succ]) | (apply canN; (· rfl); (· rfl); simp only [Act.put, List.setIfInBounds_toArray, List.set_cons_zero, List.set_cons_succ]) | (apply canN1; (· rfl); (· rfl); simp only [Act.put, List.setIfInBounds_toArray, List.set_cons_zero, List.set_cons_succ]) | (apply can0; (· rfl); (· (go_simp; done)); (· (intro w'; first | (go_simp; with_reducible rfl) | (go_simp; done))); simp only [Act.put, List.setIfInBounds_toArray, List.set_cons_zero, List.set_cons_succ]) | (apply can1; (· rfl); (· (go_simp; done)); (· (first | (go_simp; with_reducible rfl) | (go_simp; done))); simp only [Act.put, List.setIfInBounds_toArray, List.set_cons_zero, List.set_cons_succ]) | (apply canN; (· rfl); (· (go_simp; done)); simp only [Act.put, List.setIfInBounds_toArray, List.set_cons_zero, List.set_cons_succ]) | (apply canN1; (· rfl); (· (go_simp; done)); simp only [Act.put, List.setIfInBounds_toArray, List.set_cons_zero, List.set_cons_succ])))
                refine canW rfl [4] rfl (fun K hK => ?_)
                go_simp
                (refine hK _ _ (fun u hu => by simp only [List.mem_cons, List.not_mem_nil, or_false] at hu; (first | (subst hu; exact reRun_mk rfl (by first | (go_simp; with_reducible rfl) | (go_simp; done)) (holds_at rfl)) | (rcases hu with rfl | rfl <;> exact reRun_mk rfl (by first | (go_simp; with_reducible rfl) | (go_simp; done)) (holds_at rfl)) | (rcases hu with rfl | rfl | rfl <;> exact reRun_mk rfl (by first | (go_simp; with_reducible rfl) | (go_simp; done)) (holds_at rfl)))) ?_; clear hK K; try simp only [Act.put, List.setIfInBounds_toArray, List.set_cons_zero, List.set_cons_succ])
                (repeat (first | (apply can0; (· rfl); (· rfl); (· (intro w'; first | (go_simp; with_reducible rfl) | (go_simp; done))); simp only [Act.put, List.setIfInBounds_toArray, List.set_cons_zero, List.set_cons_succ]) | (apply can1; (· rfl); (· rfl); (· (first | (go_simp; with_reducible rfl) | (go_simp; done))); simp only [Act.put, List.setIfInBounds_toArray, List.set_cons_zero, List.set_cons_succ]) | (apply canN; (· rfl); (· rfl); simp only [Act.put, List.setIfInBounds_toArray, List.set_cons_zero, List.set_cons_succ]) | (apply canN1; (· rfl); (· rfl); simp only [Act.put, List.setIfInBounds_toArray, List.set_cons_zero, List.set_cons_succ]) | (apply can0; (· rfl); (· (go_simp; done)); (· (intro w'; first | (go_simp; with_reducible rfl) | (go_simp; done))); simp only [Act.put, List.setIfInBounds_toArray, List.set_cons_zero, List.set_cons_succ]) | (apply can1; (· rfl); (· (go_simp; done)); (· (first | (go_simp; with_reducible rfl) | (go_simp; done))); simp only [Act.put, List.setIfInBounds_toArray, List.set_cons_zero, List.set_cons_succ]) | (apply canN; (· rfl); (· (go_simp; done)); simp only [Act.put, List.setIfInBounds_toArray, List.set_cons_zero, List.set_cons_succ]) | (apply canN1; (· rfl); (· (go_simp; done)); simp only [Act.put, List.setIfInBounds_toArray, List.set_cons_zero, List.set_cons_succ])))
                refine canE ?_
                go_wp2
                go_roundw
                case rel => exact ⟨k + 1, by omega, by go_num, HI.out.1.kept (Chg.refl _ _).drew, HI.out.2.drew⟩
                case measure => simp [intOf]; omega
              · obtain rfl : k = l2.length := by omega
                go_wp2_with fail
                go_at_call 9
                refine (ufirst_any _).mono ?_
                rintro e wF ⟨rfl, hwF⟩
                go_wp2
                go_ret
                exact ⟨rfl, (HB.out.2.1.trans HI.out.1.chg fun _ _ h => h).trans hwF fun _ _ h => h⟩
    · have hcell : ∀ k, k < l2.length → ∃ b o, a2 = some ⟨b, o, none⟩ ∧ w.cell? ⟨b, o + k, none⟩ = some (.int .u8 (l2.getD k 0)) := fun k hk => HR2.out.cell (j := k) (u := .int .u8 (l2.getD k 0)) (by simp [bytesV, List.getD, hk])
      have HC := Lib.hid hcell
      have HP := Lib.hid hp
      clear hp hcell
      go_wp2_with fail
      go_loopw [8] (fun i wr => ∃ k : Nat, k ≤ l2.length ∧ i = .int .i64 k ∧ wr = wB ∧ Hid (∀ x ∈ l2.take k, x ≤ 126)) (fun i _ => l2.length - (intOf i).toNat)
      case atStart => exact ⟨0, Nat.zero_le _, rfl, rfl, by unfold Hid; simp⟩
      case round =>
        obtain ⟨k, hk, rfl, rfl, HT⟩ := hrel
        by_cases hkl : k < l2.length
        · have hki : (k : Int) < (l2.length : Int) := by omega
          obtain ⟨b, o, rfl, h2⟩ := HC.out k hkl
          have h4 := HB.out.2.1.cell h2 id
          have HS := Lib.hid (take_snoc hkl (0 : Int))
          generalize l2.getD k 0 = c at *
          by_cases h5 : 126 < c
          · skip
            go_wp2_with fail
            go_at_call 9
            refine (ufirst_any _).mono ?_
            rintro e wF ⟨rfl, hwF⟩
            go_wp2
            go_ret
            exact ⟨rfl, HB.out.2.1.trans hwF fun _ _ h => h⟩
          · go_wp2
            go_roundw
            case rel =>
              refine ⟨k + 1, by omega, by go_num, by first | rfl | trivial, ?_⟩
              unfold Hid
              rw [HS.out]
              intro x hx
              rcases List.mem_append.1 hx with h | h
              · exact HT.out x h
              · rw [List.mem_singleton.1 h]; omega
            case measure => simp [intOf]; omega
        · obtain rfl : k = l2.length := by omega
          have h := HT.out
          rw [List.take_length] at h
          exact absurd h HP.out
  · rcases (show E.length < 2 ∨ (2 ≤ E.length ∧ a1 < 1) ∨ (2 ≤ E.length ∧ 1 ≤ a1 ∧ (E.length : Int) ≤ a1) ∨ (2 ≤ E.length ∧ 1 ≤ a1 ∧ a1 < (E.length : Int) ∧ 500 < l2.length) by omega) with g | ⟨g, g'⟩ | ⟨g, g', g2⟩ | ⟨g, g', g2, g3⟩
    · have k1 : (E.length : Int) < 2 := by omega
      go_wp2_with fail
      go_at_call 9
      refine (ufirst_any _).mono ?_
      rintro e wF ⟨rfl, hwF⟩
      go_wp2
      go_ret
      exact ⟨rfl, HB.out.2.1.trans hwF fun _ _ h => h⟩
    · have k1 : ¬ (E.length : Int) < 2 := by omega
      go_wp2_with fail
      go_at_call 9
      refine (ufirst_any _).mono ?_
      rintro e wF ⟨rfl, hwF⟩
      go_wp2
      go_ret
      exact ⟨rfl, HB.out.2.1.trans hwF fun _ _ h => h⟩
    · have k1 : ¬ (E.length : Int) < 2 := by omega
      have k2 : ¬ a1 < 1 := by omega
      go_wp2_with fail
      go_at_call 9
      refine (ufirst_any _).mono ?_
      rintro e wF ⟨rfl, hwF⟩
      go_wp2
      go_ret
      exact ⟨rfl, HB.out.2.1.trans hwF fun _ _ h => h⟩
    · have k1 : ¬ (E.length : Int) < 2 := by omega
      have k2 : ¬ a1 < 1 := by omega
      have k3 : ¬ (E.length : Int) ≤ a1 := by omega
      have k4 : (500 : Int) < (l2.length : Int) := by omega
      go_wp2_with fail
      go_at_call 9
      refine (ufirst_any _).mono ?_
      rintro e wF ⟨rfl, hwF⟩
      go_wp2
      go_ret
      exact ⟨rfl, HB.out.2.1.trans hwF fun _ _ h => h⟩
end Go.Proofs.Ytfcgjnmbbgioiaa
