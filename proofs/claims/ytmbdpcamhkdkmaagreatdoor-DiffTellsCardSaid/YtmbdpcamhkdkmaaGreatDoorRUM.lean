/-
  The document's UTF-8: a sign's size, what follows, the decoder, what is written.
-/
import Derived.Test.YtmbdpcamhkdkmaaGreatDoorPU2M
import Derived.Test.YtmbdpcamhkdkmaaGreatDoorMg7
import Derived.Deep.DeepCutAuto
import Derived.Deep.CutBlock
import Derived.Deep.QuietTactic
import Derived.BigQuiet
namespace Go.Proofs.YtmbdpcamhkdkmaaGreatDoor
open Go.RowKit
set_option linter.unusedVariables false
set_option linter.unusedSimpArgs false

theorem wr_i64_m1 : IntKind.i64.wrap (-1) = -1 := by decide
theorem wr_i64_0 : IntKind.i64.wrap 0 = 0 := by decide
theorem wr_i64_1 : IntKind.i64.wrap 1 = 1 := by decide
theorem wr_i64_2 : IntKind.i64.wrap 2 = 2 := by decide
theorem wr_i64_3 : IntKind.i64.wrap 3 = 3 := by decide
theorem wr_i64_6 : IntKind.i64.wrap 6 = 6 := by decide
theorem wr_i64_12 : IntKind.i64.wrap 12 = 12 := by decide
theorem wr_i64_18 : IntKind.i64.wrap 18 = 18 := by decide
theorem wr_u8_960 : IntKind.u8.wrap 960 = 192 := by decide
set_option maxRecDepth 100000 in
theorem wr_u8_480 : IntKind.u8.wrap 480 = 224 := by decide
set_option maxRecDepth 100000 in
theorem wr_u8_240 : IntKind.u8.wrap 240 = 240 := by decide
attribute [local go_sem] wr_i64_m1 wr_i64_0 wr_i64_1 wr_i64_2 wr_i64_3 wr_i64_6 wr_i64_12 wr_i64_18 wr_u8_960 wr_u8_480 wr_u8_240
set_option maxRecDepth 100000 in
theorem refSign_any (w : World) (r : Int) : Calls Tryz.prog 69 #[.int .i32 r] w fun e w' => e = .returned (.bool (isSign r)) ∧ w' = w := by
  rcases (show r < 0 ∨ 1114111 < r ∨ (55296 ≤ r ∧ r ≤ 57343) ∨ (0 ≤ r ∧ r < 55296) ∨ (57343 < r ∧ r ≤ 1114111) by omega) with h | h | ⟨h, h'⟩ | ⟨h, h'⟩ | ⟨h, h'⟩
  all_goals
    go_enter Tryz.func69, Tryz.ntmps69
    go_wp2
    go_ret
    refine ⟨?_, rfl⟩
    show Ending.returned (Value.bool _) = _
    congr 2; rw [Bool.eq_iff_iff]; simp [isSign]; omega

theorem Bx.pushs2 {w wr w1 : World} {v v1 : Value} {L ys : List Int} {us : List Value} {n : Nat} (h : Bx w wr v L) (ho : Own w1 5 1 v1 n (bytesV L ++ us)) (hc : Chg wr w1 (blkOf v)) (hf : ∀ k, blkOf v1 k → blkOf v k ∨ wr.heap.size ≤ k) (hu : us = bytesV ys) (hn : n = L.length + ys.length) : Bx w w1 v1 (L ++ ys) := by
  subst hu hn
  refine ⟨by simpa [bytesV] using ho, h.2.1.trans hc (fun i hi hb => by have := h.2.2 i hb; omega), fun k hk => ?_⟩
  rcases hf k hk with h1 | h1
  · exact h.2.2 k h1
  · exact Nat.le_trans h.2.1.size h1

theorem or128i {y : Int} (h0 : 0 ≤ y) (h1 : y < 64) : bits .or .i32 128 y = 128 + y := i32_or6 2 y (by omega) (by omega) h0 h1
theorem or224 {y : Int} (h0 : 0 ≤ y) (h1 : y < 16) : bits .or .i32 224 y % 256 = 224 + y := by
  rw [bits_join .i32 31 (by decide) wraps_i32 4 224 y (by omega) (by omega) (by omega) h0 h1 (by omega)]; omega
theorem or240 {y : Int} (h0 : 0 ≤ y) (h1 : y < 8) : bits .or .i32 240 y % 256 = 240 + y := by
  rw [bits_join .i32 31 (by decide) wraps_i32 3 240 y (by omega) (by omega) (by omega) h0 h1 (by omega)]; omega
theorem or_lowi {s : Int} (h0 : 0 ≤ s) (h1 : s < 2147483648) : bits .or .i32 128 (bits .and .i32 s 63) % 256 = 128 + s % 64 := by
  rw [i32_and63 s h0 h1, or128i (by omega) (by omega)]; omega
set_option maxRecDepth 100000 in
set_option maxHeartbeats 8000000 in
theorem refEncode_any (w : World) (va : Value) (l : List Int) (ha : Rd w 1 va l.length (runesV l)) (hl : l.length ≤ 1000000) :
    Calls Tryz.prog 67 #[va] w fun e w' => ∃ v, e = .returned v ∧ Own w' 5 1 v (encL l).length (bytesV (encL l)) ∧ Chg w w' nob ∧ ∀ k, blkOf v k → w.heap.size ≤ k := by
  obtain ⟨a1, c1, rfl, hn1, _, hx1⟩ := ha
  have HC := Lib.hid hx1
  clear hx1
  go_enter Tryz.func67, Tryz.ntmps67
  go_wp2
  go_loopw [3, 4] (fun v i wr => ∃ k : Nat, k ≤ l.length ∧ i = .int .i64 k ∧ Hid (Bx w wr v (encL (l.take k)))) (fun _ i _ => l.length - (intOf i).toNat)
  case atStart => exact ⟨0, Nat.zero_le _, rfl, ⟨World.ownsRow_nil w 0 5 1, Chg.refl _ _, fun k hk => by cases hk⟩⟩
  case round =>
    obtain ⟨k, hk, rfl, HI⟩ := hrel
    by_cases hkl : k < l.length
    · have hki : (k : Int) < (l.length : Int) := by omega
      obtain ⟨g, o, rfl, hcx⟩ := HC.out k (.int .i32 (l.getD k 0)) (by simp [runesV, List.getD, hkl])
      have hcr := HI.out.2.1.cell hcx id
      have hsn : encL (l.take (k + 1)) = encL (l.take k) ++ encS (fixR (l.getD k 0)) := by rw [take_snoc hkl (0 : Int), encL_snoc]; rfl
      have hle := encL_len (l.take k)
      rw [List.length_take] at hle
      generalize l.getD k 0 = r at *
      have HSN := Lib.hid hsn
      clear hsn hcx
      generalize encL (l.take k) = L at *
      go_wp2_with fail
      go_at_call 69
      refine (refSign_any wr r).mono ?_
      rintro e w' ⟨rfl, rfl⟩
      obtain ⟨bb, hbb⟩ : ∃ bb, isSign r = bb := ⟨_, rfl⟩
      rw [hbb]
      have HBB := Lib.hid hbb
      clear hbb
      have hnb : (!bb) = !bb := rfl
      go_upto_if 18 with (fail)
      go_cut [5] (fun v wx => v = .int .i32 (fixR r) ∧ wx = w')
      case first =>
        cases bb
        · have hf : fixR r = 65533 := by unfold fixR; rw [if_neg (by rw [HBB.out]; simp)]
          go_wp2
          go_meet
          exact ⟨by rw [hf], rfl⟩
        · have hf : fixR r = r := by unfold fixR; rw [if_pos HBB.out]
          go_wp2
          go_meet
          exact ⟨by rw [hf], rfl⟩
      case rest =>
        obtain ⟨rfl, rfl⟩ := hcut
        have hsg := fixR_sign r
        generalize fixR r = s at *
        obtain ⟨b1, b2, b3⟩ := isSign_b hsg
        clear hsg hcr
        obtain ⟨ao, co, rfl, hLc, _⟩ := HI.out.1.form
        by_cases s1 : s < 128
        · skip
          go_wp2_with (at_builtin; refine wpList_push rfl (.tmp 43) (.tmp 46) 25 rfl 5 (.int .u8 0) 1 1 i_byte u_bytes rfl (by decide) _ L.length _ rfl HI.out.1 1 1 rfl rfl rfl (by unfold maxLen; omega) (by omega) ?_)
          intro v1 w1 ho hch hfo
          have hb1 := HI.out.pushs2 (ys := encS s) ho hch hfo (by unfold encS; rw [if_pos s1]; rfl) (by unfold encS; rw [if_pos s1]; rfl)
          have HB1 : Hid (Bx w w1 v1 (encL (l.take (k + 1)))) := Lib.hid (by rw [HSN.out]; exact hb1)
          clear ho hch hfo hb1
          go_wp2
          go_roundw
          case rel => exact ⟨k + 1, by omega, by go_num, HB1⟩
          case measure => simp [intOf]; omega
        · by_cases s2 : s < 2048
          · skip
            go_wp2_with (at_builtin; refine wpList_push rfl (.tmp 51) (.tmp 60) 25 rfl 5 (.int .u8 0) 1 1 i_byte u_bytes rfl (by decide) _ L.length _ rfl HI.out.1 2 2 rfl rfl rfl (by unfold maxLen; omega) (by omega) ?_)
            intro v1 w1 ho hch hfo
            have hb1 := HI.out.pushs2 (ys := encS s) ho hch hfo (by unfold encS; rw [if_neg (by omega), if_pos (by omega), or_lowi (by omega) (by omega)]; rfl) (by unfold encS; rw [if_neg (by omega), if_pos (by omega)]; rfl)
            have HB1 : Hid (Bx w w1 v1 (encL (l.take (k + 1)))) := Lib.hid (by rw [HSN.out]; exact hb1)
            clear ho hch hfo hb1
            go_wp2
            go_roundw
            case rel => exact ⟨k + 1, by omega, by go_num, HB1⟩
            case measure => simp [intOf]; omega
          · by_cases s3 : s < 65536
            · skip
              go_wp2_with (at_builtin; refine wpList_push rfl (.tmp 65) (.tmp 79) 25 rfl 5 (.int .u8 0) 1 1 i_byte u_bytes rfl (by decide) _ L.length _ rfl HI.out.1 3 3 rfl rfl rfl (by unfold maxLen; omega) (by omega) ?_)
              intro v1 w1 ho hch hfo
              have hb1 := HI.out.pushs2 (ys := encS s) ho hch hfo (by unfold encS; rw [if_neg (by omega), if_neg (by omega), if_pos (by omega)]; rw [or_lowi (by omega) (by omega), or_lowi (by omega) (by omega), or224 (by omega) (by omega)]; rfl) (by unfold encS; rw [if_neg (by omega), if_neg (by omega), if_pos (by omega)]; rfl)
              have HB1 : Hid (Bx w w1 v1 (encL (l.take (k + 1)))) := Lib.hid (by rw [HSN.out]; exact hb1)
              clear ho hch hfo hb1
              go_wp2
              go_roundw
              case rel => exact ⟨k + 1, by omega, by go_num, HB1⟩
              case measure => simp [intOf]; omega
            · skip
              go_wp2_with (at_builtin; refine wpList_push rfl (.tmp 19) (.tmp 38) 25 rfl 5 (.int .u8 0) 1 1 i_byte u_bytes rfl (by decide) _ L.length _ rfl HI.out.1 4 4 rfl rfl rfl (by unfold maxLen; omega) (by omega) ?_)
              intro v1 w1 ho hch hfo
              have hb1 := HI.out.pushs2 (ys := encS s) ho hch hfo (by unfold encS; rw [if_neg (by omega), if_neg (by omega), if_neg (by omega)]; rw [or_lowi (by omega) (by omega), or_lowi (by omega) (by omega), or_lowi (by omega) (by omega), or240 (by omega) (by omega)]; rfl) (by unfold encS; rw [if_neg (by omega), if_neg (by omega), if_neg (by omega)]; rfl)
              have HB1 : Hid (Bx w w1 v1 (encL (l.take (k + 1)))) := Lib.hid (by rw [HSN.out]; exact hb1)
              clear ho hch hfo hb1
              go_wp2
              go_roundw
              case rel => exact ⟨k + 1, by omega, by go_num, HB1⟩
              case measure => simp [intOf]; omega
    · obtain rfl : k = l.length := by omega
      go_wp2
      go_ret
      have h := HI.out
      rw [List.take_length] at h
      exact ⟨_, rfl, h.1, h.2.1, h.2.2⟩

set_option maxRecDepth 100000 in
theorem run_cut_lh (a : Option Addr) (len cap : Nat) (k k' : IntKind) (l h : Int) (w : World) (h0 : 0 ≤ l) (h1 : l ≤ h) (h2 : h ≤ cap) :
    (Instr.slice 72 (.slice a len cap) (some (.int k l)) (some (.int k' h)) none).run Tryz.prog w = .ok (.slice (addS a cap l.toNat) (h.toNat - l.toNat) (cap - l.toNat)) w := by
  rw [run_slice_lh w 72 a len cap u_runes k k' l h h0 h1 h2]
  have : (sizeOf (Tryz.prog.elem 72)).run Tryz.prog w = .ok 1 w := rfl
  rw [this]
  simp [Result.andThen, sliced, addS]


set_option maxRecDepth 100000 in
set_option maxHeartbeats 1000000 in
theorem rsize_any (w : World) (c : Int) : Calls Tryz.prog 100 #[.int .u8 c] w fun e w' => e = .returned (.int .i64 (lenB c)) ∧ w' = w := by
  rcases (show c < 128 ∨ (128 ≤ c ∧ c < 194) ∨ (194 ≤ c ∧ c < 224) ∨ (224 ≤ c ∧ c < 240) ∨ (240 ≤ c ∧ c < 245) ∨ 245 ≤ c by omega) with h | ⟨h, h'⟩ | ⟨h, h'⟩ | ⟨h, h'⟩ | ⟨h, h'⟩ | h
  all_goals
    go_enter Tryz.func100, Tryz.ntmps100
    go_wp2
  all_goals go_ret
  all_goals (refine ⟨?_, rfl⟩; unfold lenB; show Ending.returned (Value.int .i64 _) = _; congr 2; (repeat' split) <;> omega)
set_option maxRecDepth 100000 in
set_option maxHeartbeats 1000000 in
theorem rnext_any (w : World) (f c a : Int) : Calls Tryz.prog 101 #[.int .u8 f, .int .i64 a, .int .u8 c] w fun e w' => e = .returned (.bool (folB f c a)) ∧ w' = w := by
  go_enter Tryz.func101, Tryz.ntmps101
  go_wp2
  all_goals go_ret
  all_goals (refine ⟨?_, rfl⟩; unfold folB; show Ending.returned (Value.bool _) = _; congr 2)
  all_goals (simp only [beq_iff_eq, beq_eq_false_iff_ne, ne_eq] at *; rw [Bool.eq_iff_iff]; simp only [Bool.and_eq_true, decide_eq_true_eq, Bool.false_eq_true, false_iff]; (repeat' split) <;> omega)

set_option maxRecDepth 100000 in
set_option maxHeartbeats 4000000 in
theorem number_2 (w : World) (g o cap : Nat) (a b : Int) (hc : 2 ≤ cap) (h0 : w.cell? ⟨g, o, none⟩ = some (.int .u8 a)) (h1 : w.cell? ⟨g, o + 1, none⟩ = some (.int .u8 b)) (ha : 0 ≤ a ∧ a ≤ 255) (hb : 0 ≤ b ∧ b ≤ 255) :
    Calls Tryz.prog 91 #[.slice (some ⟨g, o, none⟩) 2 cap] w fun e w' => e = .returned (.int .i32 (signR [a, b])) ∧ Chg w w' nob := by
  go_enter Tryz.func91, Tryz.ntmps91
  go_wp2_with fail
  go_quiet (fail)
  go_wp2
  go_ret
  refine ⟨?_, (Chg.refl w nob).drewN _⟩
  show Ending.returned (Value.int .i32 _) = _
  congr 2
  try (simp only [signR]; omega)
set_option maxRecDepth 100000 in
set_option maxHeartbeats 4000000 in
theorem number_3 (w : World) (g o cap : Nat) (a b c : Int) (hc : 3 ≤ cap) (h0 : w.cell? ⟨g, o, none⟩ = some (.int .u8 a)) (h1 : w.cell? ⟨g, o + 1, none⟩ = some (.int .u8 b)) (h2 : w.cell? ⟨g, o + 2, none⟩ = some (.int .u8 c)) (ha : 0 ≤ a ∧ a ≤ 255) (hb : 0 ≤ b ∧ b ≤ 255) (hc' : 0 ≤ c ∧ c ≤ 255) :
    Calls Tryz.prog 91 #[.slice (some ⟨g, o, none⟩) 3 cap] w fun e w' => e = .returned (.int .i32 (signR [a, b, c])) ∧ Chg w w' nob := by
  go_enter Tryz.func91, Tryz.ntmps91
  go_wp2_with fail
  go_quiet (fail)
  go_wp2
  go_ret
  refine ⟨?_, (Chg.refl w nob).drewN _⟩
  show Ending.returned (Value.int .i32 _) = _
  congr 2
  try (simp only [signR]; omega)
set_option maxRecDepth 100000 in
set_option maxHeartbeats 4000000 in
theorem number_4 (w : World) (g o cap : Nat) (a b c d : Int) (hc : 4 ≤ cap) (h0 : w.cell? ⟨g, o, none⟩ = some (.int .u8 a)) (h1 : w.cell? ⟨g, o + 1, none⟩ = some (.int .u8 b)) (h2 : w.cell? ⟨g, o + 2, none⟩ = some (.int .u8 c)) (h3 : w.cell? ⟨g, o + 3, none⟩ = some (.int .u8 d)) (ha : 0 ≤ a ∧ a ≤ 255) (hb : 0 ≤ b ∧ b ≤ 255) (hc' : 0 ≤ c ∧ c ≤ 255) (hd : 0 ≤ d ∧ d ≤ 255) :
    Calls Tryz.prog 91 #[.slice (some ⟨g, o, none⟩) 4 cap] w fun e w' => e = .returned (.int .i32 (signR [a, b, c, d])) ∧ Chg w w' nob := by
  go_enter Tryz.func91, Tryz.ntmps91
  go_wp2_with fail
  go_quiet (fail)
  go_wp2
  go_ret
  refine ⟨?_, (Chg.refl w nob).drewN _⟩
  show Ending.returned (Value.int .i32 _) = _
  congr 2
  try (simp only [signR]; omega)
set_option maxRecDepth 100000 in
set_option maxHeartbeats 4000000 in
theorem number_1 (w : World) (g o cap : Nat) (a : Int) (hc : 1 ≤ cap) (h0 : w.cell? ⟨g, o, none⟩ = some (.int .u8 a)) (ha : 0 ≤ a ∧ a ≤ 255) :
    Calls Tryz.prog 91 #[.slice (some ⟨g, o, none⟩) 1 cap] w fun e w' => e = .returned (.int .i32 (signR [a])) ∧ Chg w w' nob := by
  go_enter Tryz.func91, Tryz.ntmps91
  go_wp2
  go_ret
  exact ⟨rfl, Chg.refl w nob⟩
set_option maxRecDepth 100000 in
theorem number_any (w : World) (va : Value) (s : List Int) (ha : Rd w 1 va s.length (bytesV s)) (h0 : 1 ≤ s.length) (h1 : s.length ≤ 4) (hx : ∀ x ∈ s, 0 ≤ x ∧ x ≤ 255) :
    Calls Tryz.prog 91 #[va] w fun e w' => e = .returned (.int .i32 (signR s)) ∧ Chg w w' nob := by
  obtain ⟨ao, cap, rfl, hc, hl, hcell⟩ := ha
  match s, h0, h1, hx, hcell, hc with
  | [a], _, _, hx, hcell, hc =>
    obtain ⟨g, o, rfl, c0⟩ := hcell 0 (.int .u8 a) rfl
    exact number_1 w g o cap a hc c0 (hx a (by simp))
  | [a, b], _, _, hx, hcell, hc =>
    obtain ⟨g, o, rfl, c0⟩ := hcell 0 (.int .u8 a) rfl
    obtain ⟨g', o', e, c1⟩ := hcell 1 (.int .u8 b) rfl
    cases e
    exact number_2 w g o cap a b hc c0 c1 (hx a (by simp)) (hx b (by simp))
  | [a, b, c], _, _, hx, hcell, hc =>
    obtain ⟨g, o, rfl, c0⟩ := hcell 0 (.int .u8 a) rfl
    obtain ⟨g', o', e, c1⟩ := hcell 1 (.int .u8 b) rfl
    cases e
    obtain ⟨g', o', e, c2⟩ := hcell 2 (.int .u8 c) rfl
    cases e
    exact number_3 w g o cap a b c hc c0 c1 c2 (hx a (by simp)) (hx b (by simp)) (hx c (by simp))
  | [a, b, c, d], _, _, hx, hcell, hc =>
    obtain ⟨g, o, rfl, c0⟩ := hcell 0 (.int .u8 a) rfl
    obtain ⟨g', o', e, c1⟩ := hcell 1 (.int .u8 b) rfl
    cases e
    obtain ⟨g', o', e, c2⟩ := hcell 2 (.int .u8 c) rfl
    cases e
    obtain ⟨g', o', e, c3⟩ := hcell 3 (.int .u8 d) rfl
    cases e
    exact number_4 w g o cap a b c d hc c0 c1 c2 c3 (hx a (by simp)) (hx b (by simp)) (hx c (by simp)) (hx d (by simp))

set_option maxRecDepth 100000 in
set_option maxHeartbeats 4000000 in
theorem front_any (w : World) (va : Value) (R : List Int) (ha : Rd w 1 va R.length (bytesV R)) (h0 : R ≠ []) (hl : R.length ≤ 1000000) :
    Calls Tryz.prog 90 #[va] w fun e w' => ∃ k n : Nat, e = .returned (.tuple #[.int .i64 k, .int .i64 n]) ∧ Front R k n ∧ Chg w w' nob := by
  obtain ⟨ao, cap, rfl, hc, _, hcell⟩ := ha
  have hlen : 0 < R.length := by cases R with | nil => exact absurd rfl h0 | cons _ _ => simp
  obtain ⟨g, o, rfl, c0⟩ := hcell 0 (.int .u8 (R.getD 0 0)) (by simp [bytesV, List.getD, hlen])
  have hcc : ∀ k, k < R.length → w.cell? ⟨g, o + k, none⟩ = some (.int .u8 (R.getD k 0)) := fun k hk => by
    obtain ⟨g', o', e, h⟩ := hcell k (.int .u8 (R.getD k 0)) (by simp [bytesV, List.getD, hk])
    cases e
    exact h
  have HC := Lib.hid hcc
  have HH := Lib.hid (headD_get R)
  simp only [Nat.add_zero] at c0
  clear hcell hcc
  generalize hf : R.getD 0 0 = f at *
  clear hf
  obtain ⟨n, hn⟩ : ∃ n : Nat, (n : Int) = lenB f := Int.eq_ofNat_of_zero_le (lenB_le f).1 |>.imp fun _ h => h.symm
  have hn4 := (lenB_le f).2
  rw [← hn] at hn4
  have HN := Lib.hid hn
  have hl0 : (0 : Int) < (R.length : Int) := by omega
  go_enter Tryz.func90, Tryz.ntmps90
  go_wp2_with fail
  go_at_call 100
  refine (rsize_any w f).mono ?_
  rw [← hn]
  rintro e w' ⟨rfl, rfl⟩
  clear hn
  by_cases hn0 : n = 0
  · subst hn0
    go_wp2
    go_ret2
    exact ⟨1, 0, rfl, ⟨by rw [← HH.out]; exact HN.out, Nat.le_refl _, hlen, .inl ⟨rfl, rfl⟩⟩, Chg.refl _ _⟩
  · have hnp : ((n : Int) == 0) = false := by simp; exact hn0
    go_wp2_with fail
    go_loopw [5] (fun i wr => ∃ k : Nat, 1 ≤ k ∧ k ≤ n ∧ k ≤ R.length ∧ i = .int .i64 k ∧ Hid (∀ j, 0 < j → j < k → folB f (R.getD j 0) j = true) ∧ Hid (Chg w' wr nob)) (fun i _ => 4 - (intOf i).toNat)
    case atStart => exact ⟨1, Nat.le_refl _, by omega, hlen, rfl, (fun j h h' => by omega), Chg.refl _ _⟩
    case round =>
      obtain ⟨k, hk1, hkn, hkl, rfl, HF, HI⟩ := hrel
      have hc0 := HI.out.cell c0 id
      by_cases z1 : k < n
      · have y1 : (k : Int) < (n : Int) := by omega
        by_cases z2 : k < R.length
        · have y2 : (k : Int) < (R.length : Int) := by omega
          have hck := HI.out.cell (HC.out k z2) id
          obtain ⟨c, hc'⟩ : ∃ c, R.getD k 0 = c := ⟨_, rfl⟩
          rw [hc'] at hck
          have HCK := Lib.hid hc'
          clear hc'
          obtain ⟨bb, hb⟩ : ∃ bb, folB f c k = bb := ⟨_, rfl⟩
          have HBB := Lib.hid hb
          clear hb
          go_wp2_with fail
          refine wp_one [12, 17] [18] [] [0, 1, 2, 3, 4, 5, 6, 7, 8, 9, 10, 11, 12, 13, 14, 15, 16, 17, 18, 19] rfl (by kernel_rfl) (fun _ _ _ _ _ h => h) ?_; simp only [List.map_cons, List.map_nil, List.getElem?_toArray, List.getElem?_cons_zero, List.getElem?_cons_succ]
          (repeat (first | (apply can0; (· rfl); (· rfl); (· (intro w'; first | (go_simp; with_reducible rfl) | (go_simp; done))); simp only [Act.put, List.setIfInBounds_toArray, List.set_cons_zero, List.set_cons_succ]) | (apply can1; (· rfl); (· rfl); (· (first | (go_simp; with_reducible rfl) | (go_simp; done))); simp only [Act.put, List.setIfInBounds_toArray, List.set_cons_zero, List.set_cons_succ]) | (apply canN; (· rfl); (· rfl); simp only [Act.put, List.setIfInBounds_toArray, List.set_cons_zero, List.set_cons_succ]) | (apply canN1; (· rfl); (· rfl); simp only [Act.put, List.setIfInBounds_toArray, List.set_cons_zero, List.set_cons_succ]) | (apply can0; (· rfl); (· (go_simp; done)); (· (intro w'; first | (go_simp; with_reducible rfl) | (go_simp; done))); simp only [Act.put, List.setIfInBounds_toArray, List.set_cons_zero, List.set_cons_succ]) | (apply can1; (· rfl); (· (go_simp; done)); (· (first | (go_simp; with_reducible rfl) | (go_simp; done))); simp only [Act.put, List.setIfInBounds_toArray, List.set_cons_zero, List.set_cons_succ]) | (apply canN; (· rfl); (· (go_simp; done)); simp only [Act.put, List.setIfInBounds_toArray, List.set_cons_zero, List.set_cons_succ]) | (apply canN1; (· rfl); (· (go_simp; done)); simp only [Act.put, List.setIfInBounds_toArray, List.set_cons_zero, List.set_cons_succ])))
          refine canW rfl [] rfl (fun K hK => ?_)
          go_simp
          go_at_call 101
          refine (rnext_any _ f c k).mono ?_
          rw [HBB.out]
          rintro e w'' ⟨rfl, rfl⟩
          (refine hK _ _ (fun u hu => by cases hu) ?_; clear hK K; try simp only [Act.put, List.setIfInBounds_toArray, List.set_cons_zero, List.set_cons_succ])
          (repeat (first | (apply can0; (· rfl); (· rfl); (· (intro w'; first | (go_simp; with_reducible rfl) | (go_simp; done))); simp only [Act.put, List.setIfInBounds_toArray, List.set_cons_zero, List.set_cons_succ]) | (apply can1; (· rfl); (· rfl); (· (first | (go_simp; with_reducible rfl) | (go_simp; done))); simp only [Act.put, List.setIfInBounds_toArray, List.set_cons_zero, List.set_cons_succ]) | (apply canN; (· rfl); (· rfl); simp only [Act.put, List.setIfInBounds_toArray, List.set_cons_zero, List.set_cons_succ]) | (apply canN1; (· rfl); (· rfl); simp only [Act.put, List.setIfInBounds_toArray, List.set_cons_zero, List.set_cons_succ]) | (apply can0; (· rfl); (· (go_simp; done)); (· (intro w'; first | (go_simp; with_reducible rfl) | (go_simp; done))); simp only [Act.put, List.setIfInBounds_toArray, List.set_cons_zero, List.set_cons_succ]) | (apply can1; (· rfl); (· (go_simp; done)); (· (first | (go_simp; with_reducible rfl) | (go_simp; done))); simp only [Act.put, List.setIfInBounds_toArray, List.set_cons_zero, List.set_cons_succ]) | (apply canN; (· rfl); (· (go_simp; done)); simp only [Act.put, List.setIfInBounds_toArray, List.set_cons_zero, List.set_cons_succ]) | (apply canN1; (· rfl); (· (go_simp; done)); simp only [Act.put, List.setIfInBounds_toArray, List.set_cons_zero, List.set_cons_succ])))
          refine canE ?_
          cases bb
          · go_wp2
            go_ret2
            exact ⟨k, n, rfl, ⟨by rw [← HH.out]; exact HN.out, hk1, hkl, .inr ⟨hkn, by rw [← HH.out]; exact HF.out, .inr (.inr (by rw [← HH.out, HCK.out]; exact HBB.out))⟩⟩, HI.out.drew⟩
          · go_wp2
            go_roundw
            case rel =>
              refine ⟨k + 1, by omega, by omega, by omega, by go_num, fun j h1 h2 => ?_, HI.out.drew⟩
              by_cases hj : j = k
              · subst hj; rw [HCK.out]; exact HBB.out
              · exact HF.out j h1 (by omega)
            case measure => simp [intOf]; omega
        · have y2 : ¬ (k : Int) < (R.length : Int) := by omega
          go_wp2_with fail
          refine wp_one [12, 17] [18] [] [0, 1, 2, 3, 4, 5, 6, 7, 8, 9, 10, 11, 12, 13, 14, 15, 16, 17, 18, 19] rfl (by kernel_rfl) (fun _ _ _ _ _ h => h) ?_; simp only [List.map_cons, List.map_nil, List.getElem?_toArray, List.getElem?_cons_zero, List.getElem?_cons_succ]
          (repeat (first | (apply can0; (· rfl); (· rfl); (· (intro w'; first | (go_simp; with_reducible rfl) | (go_simp; done))); simp only [Act.put, List.setIfInBounds_toArray, List.set_cons_zero, List.set_cons_succ]) | (apply can1; (· rfl); (· rfl); (· (first | (go_simp; with_reducible rfl) | (go_simp; done))); simp only [Act.put, List.setIfInBounds_toArray, List.set_cons_zero, List.set_cons_succ]) | (apply canN; (· rfl); (· rfl); simp only [Act.put, List.setIfInBounds_toArray, List.set_cons_zero, List.set_cons_succ]) | (apply canN1; (· rfl); (· rfl); simp only [Act.put, List.setIfInBounds_toArray, List.set_cons_zero, List.set_cons_succ]) | (apply can0; (· rfl); (· (go_simp; done)); (· (intro w'; first | (go_simp; with_reducible rfl) | (go_simp; done))); simp only [Act.put, List.setIfInBounds_toArray, List.set_cons_zero, List.set_cons_succ]) | (apply can1; (· rfl); (· (go_simp; done)); (· (first | (go_simp; with_reducible rfl) | (go_simp; done))); simp only [Act.put, List.setIfInBounds_toArray, List.set_cons_zero, List.set_cons_succ]) | (apply canN; (· rfl); (· (go_simp; done)); simp only [Act.put, List.setIfInBounds_toArray, List.set_cons_zero, List.set_cons_succ]) | (apply canN1; (· rfl); (· (go_simp; done)); simp only [Act.put, List.setIfInBounds_toArray, List.set_cons_zero, List.set_cons_succ])))
          refine canM rfl [] rfl rfl (fun u hu => by cases hu) ?_
          (repeat (first | (apply can0; (· rfl); (· rfl); (· (intro w'; first | (go_simp; with_reducible rfl) | (go_simp; done))); simp only [Act.put, List.setIfInBounds_toArray, List.set_cons_zero, List.set_cons_succ]) | (apply can1; (· rfl); (· rfl); (· (first | (go_simp; with_reducible rfl) | (go_simp; done))); simp only [Act.put, List.setIfInBounds_toArray, List.set_cons_zero, List.set_cons_succ]) | (apply canN; (· rfl); (· rfl); simp only [Act.put, List.setIfInBounds_toArray, List.set_cons_zero, List.set_cons_succ]) | (apply canN1; (· rfl); (· rfl); simp only [Act.put, List.setIfInBounds_toArray, List.set_cons_zero, List.set_cons_succ]) | (apply can0; (· rfl); (· (go_simp; done)); (· (intro w'; first | (go_simp; with_reducible rfl) | (go_simp; done))); simp only [Act.put, List.setIfInBounds_toArray, List.set_cons_zero, List.set_cons_succ]) | (apply can1; (· rfl); (· (go_simp; done)); (· (first | (go_simp; with_reducible rfl) | (go_simp; done))); simp only [Act.put, List.setIfInBounds_toArray, List.set_cons_zero, List.set_cons_succ]) | (apply canN; (· rfl); (· (go_simp; done)); simp only [Act.put, List.setIfInBounds_toArray, List.set_cons_zero, List.set_cons_succ]) | (apply canN1; (· rfl); (· (go_simp; done)); simp only [Act.put, List.setIfInBounds_toArray, List.set_cons_zero, List.set_cons_succ])))
          refine canE ?_
          go_wp2
          go_ret2
          exact ⟨k, n, rfl, ⟨by rw [← HH.out]; exact HN.out, hk1, hkl, .inr ⟨hkn, by rw [← HH.out]; exact HF.out, .inr (.inl (by omega))⟩⟩, HI.out.drew⟩
      · have y1 : ¬ (k : Int) < (n : Int) := by omega
        go_wp2_with fail
        refine wp_one [12, 17] [18] [] [0, 1, 2, 3, 4, 5, 6, 7, 8, 9, 10, 11, 12, 13, 14, 15, 16, 17, 18, 19] rfl (by kernel_rfl) (fun _ _ _ _ _ h => h) ?_; simp only [List.map_cons, List.map_nil, List.getElem?_toArray, List.getElem?_cons_zero, List.getElem?_cons_succ]
        (repeat (first | (apply can0; (· rfl); (· rfl); (· (intro w'; first | (go_simp; with_reducible rfl) | (go_simp; done))); simp only [Act.put, List.setIfInBounds_toArray, List.set_cons_zero, List.set_cons_succ]) | (apply can1; (· rfl); (· rfl); (· (first | (go_simp; with_reducible rfl) | (go_simp; done))); simp only [Act.put, List.setIfInBounds_toArray, List.set_cons_zero, List.set_cons_succ]) | (apply canN; (· rfl); (· rfl); simp only [Act.put, List.setIfInBounds_toArray, List.set_cons_zero, List.set_cons_succ]) | (apply canN1; (· rfl); (· rfl); simp only [Act.put, List.setIfInBounds_toArray, List.set_cons_zero, List.set_cons_succ]) | (apply can0; (· rfl); (· (go_simp; done)); (· (intro w'; first | (go_simp; with_reducible rfl) | (go_simp; done))); simp only [Act.put, List.setIfInBounds_toArray, List.set_cons_zero, List.set_cons_succ]) | (apply can1; (· rfl); (· (go_simp; done)); (· (first | (go_simp; with_reducible rfl) | (go_simp; done))); simp only [Act.put, List.setIfInBounds_toArray, List.set_cons_zero, List.set_cons_succ]) | (apply canN; (· rfl); (· (go_simp; done)); simp only [Act.put, List.setIfInBounds_toArray, List.set_cons_zero, List.set_cons_succ]) | (apply canN1; (· rfl); (· (go_simp; done)); simp only [Act.put, List.setIfInBounds_toArray, List.set_cons_zero, List.set_cons_succ])))
        refine canM rfl [] rfl rfl (fun u hu => by cases hu) ?_
        (repeat (first | (apply can0; (· rfl); (· rfl); (· (intro w'; first | (go_simp; with_reducible rfl) | (go_simp; done))); simp only [Act.put, List.setIfInBounds_toArray, List.set_cons_zero, List.set_cons_succ]) | (apply can1; (· rfl); (· rfl); (· (first | (go_simp; with_reducible rfl) | (go_simp; done))); simp only [Act.put, List.setIfInBounds_toArray, List.set_cons_zero, List.set_cons_succ]) | (apply canN; (· rfl); (· rfl); simp only [Act.put, List.setIfInBounds_toArray, List.set_cons_zero, List.set_cons_succ]) | (apply canN1; (· rfl); (· rfl); simp only [Act.put, List.setIfInBounds_toArray, List.set_cons_zero, List.set_cons_succ]) | (apply can0; (· rfl); (· (go_simp; done)); (· (intro w'; first | (go_simp; with_reducible rfl) | (go_simp; done))); simp only [Act.put, List.setIfInBounds_toArray, List.set_cons_zero, List.set_cons_succ]) | (apply can1; (· rfl); (· (go_simp; done)); (· (first | (go_simp; with_reducible rfl) | (go_simp; done))); simp only [Act.put, List.setIfInBounds_toArray, List.set_cons_zero, List.set_cons_succ]) | (apply canN; (· rfl); (· (go_simp; done)); simp only [Act.put, List.setIfInBounds_toArray, List.set_cons_zero, List.set_cons_succ]) | (apply canN1; (· rfl); (· (go_simp; done)); simp only [Act.put, List.setIfInBounds_toArray, List.set_cons_zero, List.set_cons_succ])))
        refine canE ?_
        go_wp2
        go_ret2
        exact ⟨k, n, rfl, ⟨by rw [← HH.out]; exact HN.out, hk1, hkl, .inr ⟨hkn, by rw [← HH.out]; exact HF.out, .inl (by omega)⟩⟩, HI.out.drew⟩

attribute [local go_sem ↓] run_cut_h run_cut_l

/-- The reference's decoder, whose waiting bytes are these. -/
def RDec (w : World) (b : Nat) (s : List Int) (F : Nat → Prop) : Prop :=
  ∃ v, Blk w b 97 #[v] ∧ Own w 5 1 v s.length (bytesV s) ∧ F = (fun k => k = b ∨ blkOf v k)
theorem RDec.kept {w w' : World} {b : Nat} {s : List Int} {F G : Nat → Prop} (h : RDec w b s F) (hc : Chg w w' G) (hG : ∀ k, F k → ¬ G k) : RDec w' b s F := by
  obtain ⟨v, hb, ho, rfl⟩ := h
  exact ⟨v, hb.kept hc (hG b (.inl rfl)), ho.kept hc (fun k hk => hG k (.inr hk)), rfl⟩
theorem RDec.lt {w : World} {b : Nat} {s : List Int} {F : Nat → Prop} (h : RDec w b s F) {k : Nat} (hk : F k) : k < w.heap.size := by
  obtain ⟨v, hb, ho, rfl⟩ := h
  rcases hk with rfl | hk
  · exact hb.lt
  · exact ho.lt hk
theorem RDec.apart {w : World} {b : Nat} {s : List Int} {F : Nat → Prop} {v : Value} {n : Nat} {ys : List Value} (h : RDec w b s F) (ho : Own w 21 1 v n ys) {k : Nat} (hk : blkOf v k) : ¬ F k := by
  obtain ⟨u, hb, hu, rfl⟩ := h
  rintro (rfl | hf)
  · exact ho.ne hb (by decide) hk
  · obtain ⟨c1, h1⟩ := ho.row hk
    obtain ⟨c2, h2⟩ := hu.row hf
    exact absurd (h1.inj h2).1 (by decide)

/-- The loop's state: behind m bytes the signs so far. -/
def RLoop (w2 w : World) (L : List Int) (m : Nat) (rest out : Value) (O : List Int) : Prop :=
  m ≤ L.length ∧ Rd w2 1 rest (L.length - m) (bytesV (L.drop m)) ∧ NilOk rest ∧ Own w 21 1 out O.length (runesV O) ∧ (∀ k, blkOf out k → w2.heap.size ≤ k) ∧ Chg w2 w nob ∧ O.length ≤ m ∧ runD [] L = ((runD [] (L.drop m)).1, O ++ (runD [] (L.drop m)).2)

theorem RLoop.step {w2 wr wX w5 : World} {L O : List Int} {m k p cr : Nat} {ar : Option Addr} {out v5 : Value} {x : Int} (h : RLoop w2 wr L m (.slice ar p cr) out O) (hX : Chg w2 wX nob) (ho : Own w5 21 1 v5 (O.length + 1) (runesV O ++ [.int .i32 x])) (hc : Chg wX w5 (blkOf out)) (hf : ∀ k, blkOf v5 k → blkOf out k ∨ wX.heap.size ≤ k)
    (hp : L.length - m = p) (hk : k ≤ p) (hk1 : 1 ≤ k) (hs : runD [] (L.drop m) = ((runD [] ((L.drop m).drop k)).1, x :: (runD [] ((L.drop m).drop k)).2)) :
    RLoop w2 w5 L (m + k) (.slice (addS ar cr k) (p - k) (cr - k)) v5 (O ++ [x]) := by
  obtain ⟨h1, h2, h3, h4, h5, h6, h7, h8⟩ := h
  rw [hp] at h2
  refine ⟨by omega, ?_, h3.cut, by simpa [runesV] using ho, fun j hj => ?_, hX.trans hc (fun i hi hb => by have := h5 i hb; omega), by simp; omega, ?_⟩
  · have h := h2.cut (l := k) (m := p) hk (Nat.le_refl _)
    have e : L.length - (m + k) = p - k := by omega
    have e2 : (bytesV (L.drop m)).take p = bytesV (L.drop m) := List.take_of_length_le (by simp [bytesV]; omega)
    rw [e2] at h
    rw [e, ← List.drop_drop]
    simpa [bytesV, List.map_drop] using h
  · rcases hf j hj with h | h
    · exact h5 j h
    · exact Nat.le_trans hX.size h
  · rw [h8, hs, ← List.drop_drop]; simp

set_option maxRecDepth 100000 in
set_option maxHeartbeats 8000000 in
theorem rwrite_any (w : World) (b : Nat) (F : Nat → Prop) (s : List Int) (va : Value) (xs : List Int) (h : RDec w b s F) (hs : runD [] s = (s, [])) (ha : Rd w 1 va xs.length (bytesV xs)) (hn : NilOk va)
    (hsx : ∀ x ∈ s ++ xs, 0 ≤ x ∧ x ≤ 255) (hls : s.length ≤ 4) (hl : xs.length ≤ 500000) :
    Calls Tryz.prog 66 #[.pointer (some ⟨b, 0, none⟩), va] w fun e w' =>
      ∃ v, e = .returned v ∧ Own w' 21 1 v (runD s xs).2.length (runesV (runD s xs).2) ∧ Chg w w' F ∧ (∃ F', RDec w' b (runD s xs).1 F' ∧ ∀ k, F' k → F k ∨ w.heap.size ≤ k) ∧ ∀ k, blkOf v k → w.heap.size ≤ k := by
  have hrun : runD [] (s ++ xs) = runD s xs := by rw [runD_append, hs]; rfl
  rw [← hrun]
  have hll : (s ++ xs).length ≤ 500004 := by simp; omega
  have hle : Hid (bytesV s ++ bytesV xs = bytesV (s ++ xs) ∧ s.length + xs.length = (s ++ xs).length) := Lib.hid (by simp [bytesV])
  have HSX := Lib.hid hsx
  clear hrun hs hsx
  obtain ⟨L, hL⟩ : ∃ L, s ++ xs = L := ⟨_, rfl⟩
  rw [hL] at hll hle HSX ⊢
  clear hL
  obtain ⟨vs, hb, ho, rfl⟩ := h
  obtain ⟨aa, cs, rfl, _⟩ := ho.form
  obtain ⟨a1, c1, rfl, hc1, _⟩ := ha.form
  have hc0 : w.cell? ⟨b, 0, none⟩ = some (.slice aa s.length cs) := by rw [hb.cell]; rfl
  have HB := Lib.hid hb
  have HO := Lib.hid ho
  have HA := Lib.hid ha
  have HN := Lib.hid (ha.nil0 hn)
  clear hb ho ha hn
  go_enter Tryz.func66, Tryz.ntmps66
  go_wp2_with fail
  go_at_call 82
  refine (copy_any w _ s HO.out.rd HO.out.nilOk (by omega)).mono ?_
  rintro e wB ⟨vB, rfl, hoB, hcB, hbB⟩
  have HCB := Lib.hid hcB
  have HBB := Lib.hid hbB
  have hnews := Lib.hid (HA.out.kept hcB (fun _ _ => id)).news
  have hone := Lib.hid (bytes_one xs)
  clear hcB hbB
  go_wp2_with (at_builtin; refine wpList_app rfl (.tmp 12) (.tmp 13) 25 rfl 5 (.int .u8 0) 1 1 i_byte u_bytes rfl (by decide) _ s.length _ rfl hoB a1 xs.length c1 (bytesV xs) rfl HN.out (by simp [bytesV]) hnews.out hone.out (by unfold maxLen; omega) (by omega) ?_)
  intro v2 w2 ho2 hch2 hfo2
  have ho2' : Own w2 5 1 v2 L.length (bytesV L) := by rw [← hle.out.1, ← hle.out.2]; exact ho2
  have HC2 : Hid (Chg w w2 nob) := Lib.hid (HCB.out.trans hch2 (fun i hi h => by have := HBB.out i h; omega))
  have HB2 := Lib.hid (HB.out.kept HC2.out id)
  have HL : Hid (RLoop w2 w2 L 0 v2 (.slice none 0 0) []) := Lib.hid ⟨Nat.zero_le _, by simpa using ho2'.rd, ho2'.nilOk, World.ownsRow_nil w2 0 21 1, (fun k hk => by cases hk), Chg.refl _ _, Nat.le_refl _, by simp⟩
  clear ho2 ho2' hch2 hfo2 hnews hone hoB hc0
  go_wp2_with fail
  go_loopw [1, 5, 6, 7] (fun rest out kk nn wr => ∃ m : Nat, ∃ O, Hid (RLoop w2 wr L m rest out O) ∧ (∃ ar cr, rest = .slice ar (L.length - m) cr)) (fun rest _ _ _ _ => match rest with | .slice _ n _ => n | _ => 0)
  case atStart =>
    refine ⟨0, [], HL, ?_⟩
    obtain ⟨ao, cap, hv, _⟩ := HL.out.2.1.form
    exact ⟨ao, cap, hv⟩
  case round =>
    obtain ⟨m, O, HI, ar, cr, rfl⟩ := hrel
    clear HL
    by_cases hml : m < L.length
    · obtain ⟨hm, hrd, hnk, hoo, hob, hcw, hlo, hru⟩ := HI.out
      have hrd' := hrd.kept hcw (fun _ _ => id)
      have hR0 : L.drop m ≠ [] := by intro h; have := congrArg List.length h; simp at this; omega
      have hRl : (L.drop m).length = L.length - m := List.length_drop
      have hby : Hid (∀ x ∈ L.drop m, 0 ≤ x ∧ x ≤ 255) := fun x hx => HSX.out x (List.mem_of_mem_drop hx)
      have HR : Hid (L.drop m = L.drop m) := rfl
      have HRD := Lib.hid hrd'
      have HR0 := Lib.hid hR0
      have HRL := Lib.hid hRl
      have hcr := HRD.out.form
      obtain ⟨ao, cap, hv, hcap, _⟩ := hcr
      cases hv
      have HOO := Lib.hid (show Own wr 21 1 u5 O.length (runesV O) ∧ Chg w2 wr nob from ⟨hoo, hcw⟩)
      clear hrd hrd' hR0 hRl hoo hob hcw hru hnk hm
      generalize hp : L.length - m = p at *
      have hpz : ((p : Int) > 0) := by omega
      go_wp2_with fail
      go_at_call 90
      refine (front_any wr _ (L.drop m) (by rw [HRL.out]; exact HRD.out) HR0.out (by rw [HRL.out]; omega)).mono ?_
      rintro e wF ⟨k, n, rfl, hfr, hcF⟩
      have hk1 := hfr.2.1
      have hkp : k ≤ p := by rw [← HRL.out]; exact hfr.2.2.1
      have HFR := Lib.hid hfr
      have HO2 := Lib.hid (show Own wF 21 1 u5 O.length (runesV O) ∧ Chg w2 wF nob ∧ Rd wF 1 (.slice ar p cr) p (bytesV (L.drop m)) from ⟨HOO.out.1.kept hcF (fun _ _ => id), HOO.out.2.trans hcF (fun _ _ h => h), HRD.out.kept hcF (fun _ _ => id)⟩)
      clear hfr hcF HOO HRD
      have hkc : (k : Int) ≤ (cr : Int) := by omega
      have hkq : (k : Int) ≤ (p : Int) := by omega
      by_cases hkn : k = n
      · subst hkn
        have hkk : ((k : Int) == (k : Int)) = true := by simp
        have hrk : Hid (Rd wF 1 (.slice (addS ar cr 0) k cr) ((L.drop m).take k).length (bytesV ((L.drop m).take k))) := by
          have h := HO2.out.2.2.cut (l := 0) (m := k) (Nat.zero_le _) hkp
          have e : ((L.drop m).take k).length = k := by rw [List.length_take, HRL.out]; omega
          unfold Hid
          rw [e]; simpa [bytesV, List.map_take] using h
        have hk4 : k ≤ 4 := by have h1 := HFR.out.1; have h2 := (lenB_le ((L.drop m).headD 0)).2; omega
        go_wp2_with fail
        go_at_call 91
        refine (number_any wF _ ((L.drop m).take k) hrk.out (by rw [List.length_take, HRL.out]; omega) (by rw [List.length_take]; omega) (fun x hx => hby.out x (List.mem_of_mem_take hx))).mono ?_
        rintro e wG ⟨rfl, hcG⟩
        have HO3 := Lib.hid (show Own wG 21 1 u5 O.length (runesV O) ∧ Chg w2 wG nob from ⟨HO2.out.1.kept hcG (fun _ _ => id), HO2.out.2.1.trans hcG (fun _ _ h => h)⟩)
        have HWH := Lib.hid (front_whole HFR.out)
        clear hcG
        generalize signR ((L.drop m).take k) = sg at *
        go_wp2_with (at_builtin; refine wpList_push rfl (.tmp 30) (.tmp 35) 72 rfl 21 (.int .i32 0) 1 4 i_rune u_runes rfl (by decide) _ O.length _ rfl HO3.out.1 1 1 rfl rfl rfl (by unfold maxLen; omega) (by omega) ?_)
        intro v5 w5 ho5 hch5 hfo5
        have HL5 : Hid (RLoop w2 w5 L (m + k) (.slice (addS ar cr k) (p - k) (cr - k)) v5 (O ++ [sg])) := Lib.hid (HI.out.step HO3.out.2 ho5 hch5 hfo5 hp hkp hk1 HWH.out)
        clear ho5 hch5 hfo5
        go_wp2
        go_roundw
        case rel =>
          have e : L.length - (m + k) = p - k := by omega
          exact ⟨m + k, _, HL5, _, _, by rw [e]⟩
        case measure => show p - k < p; omega
      · have hkk : ((k : Int) == (n : Int)) = false := by simp; omega
        by_cases hw : 0 < n ∧ k = p
        · obtain ⟨hw1, rfl⟩ := hw
          have hw2 : (0 : Int) < (n : Int) := by omega
          have hkk2 : ((k : Int) == (k : Int)) = true := by simp
          have HWT : Hid (runD [] (L.drop m) = (L.drop m, [])) := Lib.hid (by
            have h := HFR.out
            rw [← HRL.out] at h
            exact front_waits h hw1 (by rw [HRL.out]; exact hkn))
          go_wp2_with fail
          go_at_call 82
          refine (copy_any wF _ (L.drop m) (by rw [HRL.out]; exact HO2.out.2.2) HI.out.2.2.1 (by rw [HRL.out]; omega)).mono ?_
          rintro e wG ⟨vc, rfl, hoG, hcG, hbG⟩
          rw [HRL.out] at hoG
          obtain ⟨ac, cc, rfl, _⟩ := hoG.form
          have hbz : Blk wG b 97 #[.slice aa s.length cs] := (HB2.out.kept HO2.out.2.1 id).kept hcG id
          have hfz : wG.frozen? ⟨b, 0, none⟩ = false := hbz.free 0
          have hcz : wG.cell? ⟨b, 0, none⟩ = some (.slice aa s.length cs) := by rw [hbz.cell]; rfl
          have HO3 := Lib.hid (HO2.out.1.kept hcG (fun _ _ => id))
          have HC3 := Lib.hid (HC2.out.trans (HO2.out.2.1.trans hcG (fun _ _ h => h)) (fun _ _ h => h))
          have HBZ := Lib.hid hbz
          have HOG := Lib.hid hoG
          have HBG := Lib.hid hbG
          have HFS : Hid (w.heap.size ≤ wF.heap.size) := Lib.hid (Nat.le_trans HC2.out.size HO2.out.2.1.size)
          clear hoG hcG hbG hbz
          go_wp2
          go_ret
          have hru : runD [] L = (L.drop m, O) := by have h := HI.out.2.2.2.2.2.2.2; rw [h, HWT.out]; simp
          rw [hru]
          refine ⟨_, rfl, HO3.out.setOther (HO3.out.ne HBZ.out (by decide)) _, HC3.out.mono (fun _ _ h => h.elim) |>.setCell (.inl (.inl rfl)) _, ⟨_, ⟨_, HBZ.out.set 0 _, ?_, rfl⟩, ?_⟩, fun j hj => Nat.le_trans HC2.out.size (HI.out.2.2.2.2.1 j hj)⟩
          · rw [HRL.out]
            exact HOG.out.setOther (p := ⟨b, 0, none⟩) (HOG.out.ne HBZ.out (by decide)) _
          · rintro j (rfl | hj)
            · exact .inl (.inl rfl)
            · exact .inr (Nat.le_trans HFS.out (HBG.out j hj))
        · have hw8 : n = 0 ∨ k ≠ (L.drop m).length := by rw [HRL.out]; omega
          have HBAD := Lib.hid (front_bad HFR.out hkn hw8)
          rcases (show n = 0 ∨ (0 < n ∧ k ≠ p) by omega) with hz | ⟨hz, hz'⟩
          · subst hz
            go_wp2_with (at_builtin; refine wpList_push rfl (.tmp 23) (.tmp 24) 72 rfl 21 (.int .i32 0) 1 4 i_rune u_runes rfl (by decide) _ O.length _ rfl HO2.out.1 1 1 rfl rfl rfl (by unfold maxLen; omega) (by omega) ?_)
            intro v5 w5 ho5 hch5 hfo5
            have HL5 : Hid (RLoop w2 w5 L (m + k) (.slice (addS ar cr k) (p - k) (cr - k)) v5 (O ++ [65533])) := Lib.hid (HI.out.step HO2.out.2.1 ho5 hch5 hfo5 hp hkp hk1 HBAD.out)
            clear ho5 hch5 hfo5
            go_wp2
            go_roundw
            case rel =>
              have e : L.length - (m + k) = p - k := by omega
              exact ⟨m + k, _, HL5, _, _, by rw [e]⟩
            case measure => show p - k < p; omega
          · have hw2 : (0 : Int) < (n : Int) := by omega
            have hw3 : ((k : Int) == (p : Int)) = false := by simp; omega
            go_wp2_with (at_builtin; refine wpList_push rfl (.tmp 23) (.tmp 24) 72 rfl 21 (.int .i32 0) 1 4 i_rune u_runes rfl (by decide) _ O.length _ rfl HO2.out.1 1 1 rfl rfl rfl (by unfold maxLen; omega) (by omega) ?_)
            intro v5 w5 ho5 hch5 hfo5
            have HL5 : Hid (RLoop w2 w5 L (m + k) (.slice (addS ar cr k) (p - k) (cr - k)) v5 (O ++ [65533])) := Lib.hid (HI.out.step HO2.out.2.1 ho5 hch5 hfo5 hp hkp hk1 HBAD.out)
            clear ho5 hch5 hfo5
            go_wp2
            go_roundw
            case rel =>
              have e : L.length - (m + k) = p - k := by omega
              exact ⟨m + k, _, HL5, _, _, by rw [e]⟩
            case measure => show p - k < p; omega
    · have hpz : L.length - m = 0 := by omega
      obtain ⟨hm, hrd, hnk, hoo, hob, hcw, hlo, hru⟩ := HI.out
      have hd : L.drop m = [] := List.drop_eq_nil_of_le (by omega)
      rw [hd] at hru
      have hbz : Blk wr b 97 #[.slice aa s.length cs] := HB2.out.kept hcw id
      have hfz : wr.frozen? ⟨b, 0, none⟩ = false := hbz.free 0
      have hcz : wr.cell? ⟨b, 0, none⟩ = some (.slice aa s.length cs) := by rw [hbz.cell]; rfl
      have HO3 := Lib.hid hoo
      have HC3 := Lib.hid (HC2.out.trans hcw (fun _ _ h => h))
      have HBZ := Lib.hid hbz
      have HRU : Hid (runD [] L = ([], O)) := Lib.hid (by rw [hru]; simp [runD])
      rw [hpz]
      clear hm hrd hnk hoo hob hcw hlo hru hbz hd hpz
      go_wp2
      go_ret
      rw [HRU.out]
      refine ⟨_, rfl, HO3.out.setOther (HO3.out.ne HBZ.out (by decide)) _, HC3.out.mono (fun _ _ h => h.elim) |>.setCell (.inl (.inl rfl)) _, ⟨_, ⟨_, HBZ.out.set 0 _, World.ownsRow_nil _ _ _ _, rfl⟩, ?_⟩, fun j hj => Nat.le_trans HC2.out.size (HI.out.2.2.2.2.1 j hj)⟩
      rintro j (rfl | hj)
      · exact .inl (.inl rfl)
      · cases hj
end Go.Proofs.YtmbdpcamhkdkmaaGreatDoor
