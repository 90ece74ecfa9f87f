/-
  Chapter 3: the reference's Encode.
-/
import Derived.Test.YtfcgjnmbbgioiaaUtf8
import Derived.Deep.DeepCutAuto
import Derived.Deep.CutBlock
namespace Go.Proofs.Ytfcgjnmbbgioiaa
open Go.RowKit
set_option linter.unusedVariables false
set_option linter.unusedSimpArgs false
attribute [local go_sem] wr_i64_m1 wr_i64_0 wr_i64_1 wr_i64_2 wr_i64_3 wr_i64_6 wr_i64_12 wr_i64_18 wr_u8_960 wr_u8_480 wr_u8_240

theorem refSign_any (w : World) (r : Int) : Calls Try.prog 25 #[.int .i32 r] w fun e w' => e = .returned (.bool (isSign r)) ∧ w' = w := by
  rcases (show r < 0 ∨ 1114111 < r ∨ (55296 ≤ r ∧ r ≤ 57343) ∨ (0 ≤ r ∧ r < 55296) ∨ (57343 < r ∧ r ≤ 1114111) by omega) with h | h | ⟨h, h'⟩ | ⟨h, h'⟩ | ⟨h, h'⟩
  all_goals
    go_enter Try.func25, Try.ntmps25
    go_wp2
    go_ret
    refine ⟨?_, rfl⟩
    show Ending.returned (Value.bool _) = _
    congr 2; rw [Bool.eq_iff_iff]; simp [isSign]; omega

theorem Bx.pushs {w wr w1 : World} {v v1 : Value} {L ys : List Int} {us : List Value} {n : Nat} (h : Bx w wr v L) (ho : Own w1 5 1 v1 n (bytesV L ++ us)) (hc : Chg wr w1 (blkOf v)) (hf : ∀ k, blkOf v1 k → blkOf v k ∨ wr.heap.size ≤ k) (hu : us = bytesV ys) (hn : n = L.length + ys.length) : Bx w w1 v1 (L ++ ys) := by
  subst hu hn
  refine ⟨by simpa [bytesV] using ho, h.2.1.trans hc (fun i hi hb => by have := h.2.2 i hb; omega), fun k hk => ?_⟩
  rcases hf k hk with h1 | h1
  · exact h.2.2 k h1
  · exact Nat.le_trans h.2.1.size h1

theorem or128 {y : Int} (h0 : 0 ≤ y) (h1 : y < 64) : bits .or .i32 128 y = 128 + y := i32_or6 2 y (by omega) (by omega) h0 h1
theorem or224 {y : Int} (h0 : 0 ≤ y) (h1 : y < 16) : bits .or .i32 224 y % 256 = 224 + y := by
  rw [bits_join .i32 31 (by decide) wraps_i32 4 224 y (by omega) (by omega) (by omega) h0 h1 (by omega)]; omega
theorem or240 {y : Int} (h0 : 0 ≤ y) (h1 : y < 8) : bits .or .i32 240 y % 256 = 240 + y := by
  rw [bits_join .i32 31 (by decide) wraps_i32 3 240 y (by omega) (by omega) (by omega) h0 h1 (by omega)]; omega
theorem or_low {s : Int} (h0 : 0 ≤ s) (h1 : s < 2147483648) : bits .or .i32 128 (bits .and .i32 s 63) % 256 = 128 + s % 64 := by
  rw [i32_and63 s h0 h1, or128 (by omega) (by omega)]; omega
set_option maxRecDepth 100000 in
set_option maxHeartbeats 8000000 in
theorem refEncode_any (w : World) (va : Value) (l : List Int) (ha : Rd w 1 va l.length (runesV l)) (hl : l.length ≤ 1000000) :
    Calls Try.prog 18 #[va] w fun e w' => ∃ v, e = .returned v ∧ Own w' 5 1 v (encL l).length (bytesV (encL l)) ∧ Chg w w' nob ∧ ∀ k, blkOf v k → w.heap.size ≤ k := by
  obtain ⟨a1, c1, rfl, hn1, _, hx1⟩ := ha
  have HC := Lib.hid hx1
  clear hx1
  go_enter Try.func18, Try.ntmps18
  go_wp2
  go_loopw [3, 4] (fun v i wr => ∃ k : Nat, k ≤ l.length ∧ i = .int .i64 k ∧ Hid (Bx w wr v (encL (l.take k)))) (fun _ i _ => l.length - (intOf i).toNat)
  case atStart => exact ⟨0, Nat.zero_le _, rfl, ⟨World.ownsRow_nil w 0 5 1, Chg.refl _ _, fun k hk => by cases hk⟩⟩
  case round =>
    obtain ⟨k, hk, rfl, HI⟩ := hrel
    by_cases hkl : k < l.length
    · have hki : (k : Int) < (l.length : Int) := by omega
      obtain ⟨g, o, rfl, hcx⟩ := HC.out k (.int .i32 (l.getD k 0)) (by simp [runesV, List.getD, hkl])
      have hcr := HI.out.2.1.cell hcx id
      have hsn : encL (l.take (k + 1)) = encL (l.take k) ++ encS (fixR (l.getD k 0)) := by rw [take_snoc hkl (0 : Int), encL_snoc]; rfl
      have hle := encL_len (l.take k)
      rw [List.length_take] at hle
      generalize l.getD k 0 = r at *
      have HSN := Lib.hid hsn
      clear hsn hcx
      generalize encL (l.take k) = L at *
      go_wp2_with fail
      go_at_call 25
      refine (refSign_any wr r).mono ?_
      rintro e w' ⟨rfl, rfl⟩
      obtain ⟨bb, hbb⟩ : ∃ bb, isSign r = bb := ⟨_, rfl⟩
      rw [hbb]
      have HBB := Lib.hid hbb
      clear hbb
      have hnb : (!bb) = !bb := rfl
      go_upto_if 18 with (fail)
      go_cut [5] (fun v wx => v = .int .i32 (fixR r) ∧ wx = w')
      case first =>
        cases bb
        · have hf : fixR r = 65533 := by unfold fixR; rw [if_neg (by rw [HBB.out]; simp)]
          go_wp2
          go_meet
          exact ⟨by rw [hf], rfl⟩
        · have hf : fixR r = r := by unfold fixR; rw [if_pos HBB.out]
          go_wp2
          go_meet
          exact ⟨by rw [hf], rfl⟩
      case rest =>
        obtain ⟨rfl, rfl⟩ := hcut
        have hsg := fixR_sign r
        generalize fixR r = s at *
        obtain ⟨b1, b2, b3⟩ := isSign_b hsg
        clear hsg hcr
        obtain ⟨ao, co, rfl, hLc, _⟩ := HI.out.1.form
        by_cases s1 : s < 128
        · skip
          go_wp2_with (at_builtin; refine wpList_push rfl (.tmp 43) (.tmp 46) 22 rfl 5 (.int .u8 0) 1 1 i_byte u_bytes rfl (by decide) _ L.length _ rfl HI.out.1 1 1 rfl rfl rfl (by unfold maxLen; omega) (by omega) ?_)
          intro v1 w1 ho hch hfo
          have hb1 := HI.out.pushs (ys := encS s) ho hch hfo (by unfold encS; rw [if_pos s1]; rfl) (by unfold encS; rw [if_pos s1]; rfl)
          have HB1 : Hid (Bx w w1 v1 (encL (l.take (k + 1)))) := Lib.hid (by rw [HSN.out]; exact hb1)
          clear ho hch hfo hb1
          go_wp2
          go_roundw
          case rel => exact ⟨k + 1, by omega, by go_num, HB1⟩
          case measure => simp [intOf]; omega
        · by_cases s2 : s < 2048
          · skip
            go_wp2_with (at_builtin; refine wpList_push rfl (.tmp 51) (.tmp 60) 22 rfl 5 (.int .u8 0) 1 1 i_byte u_bytes rfl (by decide) _ L.length _ rfl HI.out.1 2 2 rfl rfl rfl (by unfold maxLen; omega) (by omega) ?_)
            intro v1 w1 ho hch hfo
            have hb1 := HI.out.pushs (ys := encS s) ho hch hfo (by unfold encS; rw [if_neg (by omega), if_pos (by omega), or_low (by omega) (by omega)]; rfl) (by unfold encS; rw [if_neg (by omega), if_pos (by omega)]; rfl)
            have HB1 : Hid (Bx w w1 v1 (encL (l.take (k + 1)))) := Lib.hid (by rw [HSN.out]; exact hb1)
            clear ho hch hfo hb1
            go_wp2
            go_roundw
            case rel => exact ⟨k + 1, by omega, by go_num, HB1⟩
            case measure => simp [intOf]; omega
          · by_cases s3 : s < 65536
            · skip
              go_wp2_with (at_builtin; refine wpList_push rfl (.tmp 65) (.tmp 79) 22 rfl 5 (.int .u8 0) 1 1 i_byte u_bytes rfl (by decide) _ L.length _ rfl HI.out.1 3 3 rfl rfl rfl (by unfold maxLen; omega) (by omega) ?_)
              intro v1 w1 ho hch hfo
              have hb1 := HI.out.pushs (ys := encS s) ho hch hfo (by unfold encS; rw [if_neg (by omega), if_neg (by omega), if_pos (by omega)]; rw [or_low (by omega) (by omega), or_low (by omega) (by omega), or224 (by omega) (by omega)]; rfl) (by unfold encS; rw [if_neg (by omega), if_neg (by omega), if_pos (by omega)]; rfl)
              have HB1 : Hid (Bx w w1 v1 (encL (l.take (k + 1)))) := Lib.hid (by rw [HSN.out]; exact hb1)
              clear ho hch hfo hb1
              go_wp2
              go_roundw
              case rel => exact ⟨k + 1, by omega, by go_num, HB1⟩
              case measure => simp [intOf]; omega
            · skip
              go_wp2_with (at_builtin; refine wpList_push rfl (.tmp 19) (.tmp 38) 22 rfl 5 (.int .u8 0) 1 1 i_byte u_bytes rfl (by decide) _ L.length _ rfl HI.out.1 4 4 rfl rfl rfl (by unfold maxLen; omega) (by omega) ?_)
              intro v1 w1 ho hch hfo
              have hb1 := HI.out.pushs (ys := encS s) ho hch hfo (by unfold encS; rw [if_neg (by omega), if_neg (by omega), if_neg (by omega)]; rw [or_low (by omega) (by omega), or_low (by omega) (by omega), or_low (by omega) (by omega), or240 (by omega) (by omega)]; rfl) (by unfold encS; rw [if_neg (by omega), if_neg (by omega), if_neg (by omega)]; rfl)
              have HB1 : Hid (Bx w w1 v1 (encL (l.take (k + 1)))) := Lib.hid (by rw [HSN.out]; exact hb1)
              clear ho hch hfo hb1
              go_wp2
              go_roundw
              case rel => exact ⟨k + 1, by omega, by go_num, HB1⟩
              case measure => simp [intOf]; omega
    · obtain rfl : k = l.length := by omega
      go_wp2
      go_ret
      have h := HI.out
      rw [List.take_length] at h
      exact ⟨_, rfl, h.1, h.2.1, h.2.2⟩

theorem run_cut_lh (a : Option Addr) (len cap : Nat) (k k' : IntKind) (l h : Int) (w : World) (h0 : 0 ≤ l) (h1 : l ≤ h) (h2 : h ≤ cap) :
    (Instr.slice 31 (.slice a len cap) (some (.int k l)) (some (.int k' h)) none).run Try.prog w = .ok (.slice (addS a cap l.toNat) (h.toNat - l.toNat) (cap - l.toNat)) w := by
  rw [run_slice_lh w 31 a len cap u_runes k k' l h h0 h1 h2]
  have : (sizeOf (Try.prog.elem 31)).run Try.prog w = .ok 1 w := rfl
  rw [this]
  simp [Result.andThen, sliced, addS]
end Go.Proofs.Ytfcgjnmbbgioiaa
