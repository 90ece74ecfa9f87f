/-
  Chapter 8, the document's answer: Encode; a command's text.
-/
import Derived.Test.YtaficleoimfejaaEsc13
import Derived.Lib.EndianBits
namespace Go.Proofs.Ytaficleoimfejaa.Enc
open Go.RowKit
set_option linter.unusedVariables false
set_option linter.unusedSimpArgs false

theorem wraps_i32 (n : Int) (h₀ : 0 ≤ n) (h₁ : n < 2 ^ 31) : IntKind.i32.wrap n = n := by
  simp only [IntKind.wrap, IntKind.bits, IntKind.signed]; simp; omega
theorem wraps_u8 (n : Int) (h₀ : 0 ≤ n) (h₁ : n < 2 ^ 8) : IntKind.u8.wrap n = n := by
  simp only [IntKind.wrap, IntKind.bits, IntKind.signed]; simp; omega
section
variable (x y : Int)
theorem i32_and31 (h₀ : 0 ≤ x) (h₁ : x < 2147483648) : bits .and .i32 x (31) = x % 32 := bits_mask .i32 31 (by decide) wraps_i32 5 (by decide) x h₀ (by omega)
theorem i32_and15 (h₀ : 0 ≤ x) (h₁ : x < 2147483648) : bits .and .i32 x (15) = x % 16 := bits_mask .i32 31 (by decide) wraps_i32 4 (by decide) x h₀ (by omega)
theorem i32_and7 (h₀ : 0 ≤ x) (h₁ : x < 2147483648) : bits .and .i32 x (7) = x % 8 := bits_mask .i32 31 (by decide) wraps_i32 3 (by decide) x h₀ (by omega)
theorem i32_and63 (h₀ : 0 ≤ x) (h₁ : x < 2147483648) : bits .and .i32 x (63) = x % 64 := bits_mask .i32 31 (by decide) wraps_i32 6 (by decide) x h₀ (by omega)
theorem u8_and31 (h₀ : 0 ≤ x) (h₁ : x < 256) : bits .and .u8 x (31) = x % 32 := bits_mask .u8 8 (by decide) wraps_u8 5 (by decide) x h₀ (by omega)
theorem u8_and15 (h₀ : 0 ≤ x) (h₁ : x < 256) : bits .and .u8 x (15) = x % 16 := bits_mask .u8 8 (by decide) wraps_u8 4 (by decide) x h₀ (by omega)
theorem u8_and7 (h₀ : 0 ≤ x) (h₁ : x < 256) : bits .and .u8 x (7) = x % 8 := bits_mask .u8 8 (by decide) wraps_u8 3 (by decide) x h₀ (by omega)
theorem u8_and63 (h₀ : 0 ≤ x) (h₁ : x < 256) : bits .and .u8 x (63) = x % 64 := bits_mask .u8 8 (by decide) wraps_u8 6 (by decide) x h₀ (by omega)
theorem i32_or6 (hx₀ : 0 ≤ x) (hx₁ : x * 64 < 2147483648) (hy₀ : 0 ≤ y) (hy : y < 64) : bits .or .i32 (x * 64) y = x * 64 + y :=
  bits_join .i32 31 (by decide) wraps_i32 6 (x * 64) y (by omega) (by omega) (by omega) hy₀ hy (by omega)
theorem i32_or12 (hx₀ : 0 ≤ x) (hx₁ : x * 4096 < 2147483648) (hy₀ : 0 ≤ y) (hy : y < 4096) : bits .or .i32 (x * 4096) y = x * 4096 + y :=
  bits_join .i32 31 (by decide) wraps_i32 12 (x * 4096) y (by omega) (by omega) (by omega) hy₀ hy (by omega)
theorem i32_or18 (hx₀ : 0 ≤ x) (hx₁ : x * 262144 < 2147483648) (hy₀ : 0 ≤ y) (hy : y < 262144) : bits .or .i32 (x * 262144) y = x * 262144 + y :=
  bits_join .i32 31 (by decide) wraps_i32 18 (x * 262144) y (by omega) (by omega) (by omega) hy₀ hy (by omega)
theorem u8_or6 (hx₀ : 0 ≤ x) (hx₁ : x * 64 < 256) (hy₀ : 0 ≤ y) (hy : y < 64) : bits .or .u8 (x * 64) y = x * 64 + y :=
  bits_join .u8 8 (by decide) wraps_u8 6 (x * 64) y (by omega) (by omega) (by omega) hy₀ hy (by omega)
end

def isSign (r : Int) : Bool := decide (0 ≤ r ∧ r ≤ 1114111) && !decide (55296 ≤ r ∧ r ≤ 57343)
theorem i_byte : (Try.prog.info? 5).map (fun i => (i.zero, i.size, i.bytes)) = some (some (.int .u8 0), 1, 1) := by kernel_rfl
theorem wr_i64_m1 : IntKind.i64.wrap (-1) = -1 := by decide
theorem wr_i64_0 : IntKind.i64.wrap 0 = 0 := by decide
theorem wr_i64_1 : IntKind.i64.wrap 1 = 1 := by decide
theorem wr_i64_2 : IntKind.i64.wrap 2 = 2 := by decide
theorem wr_i64_3 : IntKind.i64.wrap 3 = 3 := by decide
theorem wr_i64_6 : IntKind.i64.wrap 6 = 6 := by decide
theorem wr_i64_12 : IntKind.i64.wrap 12 = 12 := by decide
theorem wr_i64_18 : IntKind.i64.wrap 18 = 18 := by decide
theorem wr_u8_960 : IntKind.u8.wrap 960 = 192 := by decide
theorem wr_u8_480 : IntKind.u8.wrap 480 = 224 := by decide
theorem wr_u8_240 : IntKind.u8.wrap 240 = 240 := by decide
attribute [local go_sem] wr_i64_m1 wr_i64_0 wr_i64_1 wr_i64_2 wr_i64_3 wr_i64_6 wr_i64_12 wr_i64_18 wr_u8_960 wr_u8_480 wr_u8_240

/-- The sign that is written for a number. -/
def fixR (r : Int) : Int := if isSign r then r else 65533
/-- Its bytes. -/
def encS (s : Int) : List Int :=
  if s < 128 then [s] else if s < 2048 then [192 + s / 64, 128 + s % 64] else if s < 65536 then [224 + s / 4096, 128 + s / 64 % 64, 128 + s % 64]
  else [240 + s / 262144, 128 + s / 4096 % 64, 128 + s / 64 % 64, 128 + s % 64]
def encR (r : Int) : List Int := encS (fixR r)
def encL (l : List Int) : List Int := l.flatMap encR
theorem fixR_sign (r : Int) : isSign (fixR r) = true := by
  unfold fixR; split
  · assumption
  · decide
theorem isSign_b {s : Int} (h : isSign s = true) : 0 ≤ s ∧ s ≤ 1114111 ∧ ¬ (55296 ≤ s ∧ s ≤ 57343) := by simp [isSign] at h; omega
theorem encS_le (s : Int) : 1 ≤ (encS s).length ∧ (encS s).length ≤ 4 := by
  unfold encS; (repeat' split) <;> simp
theorem encL_len (l : List Int) : (encL l).length ≤ 4 * l.length := by
  induction l with
  | nil => simp [encL]
  | cons a t ih => have := (encS_le (fixR a)).2; simp only [encL, List.flatMap_cons, List.length_append, List.length_cons, encR] at *; omega
theorem encL_snoc (l : List Int) (r : Int) : encL (l ++ [r]) = encL l ++ encR r := by simp [encL]

/-- Bytes of the call's own. -/
def Bx (w wr : World) (v : Value) (L : List Int) : Prop := Own wr 5 1 v L.length (bytesV L) ∧ Chg w wr nob ∧ ∀ k, blkOf v k → w.heap.size ≤ k
theorem Bx.drew {w wr : World} {v : Value} {L : List Int} (h : Bx w wr v L) : Bx w wr.drew v L := ⟨World.ownsRow.drew h.1, h.2.1.drew, h.2.2⟩
theorem refSign_any (w : World) (r : Int) : Calls Try.prog 40 #[.int .i32 r] w fun e w' => e = .returned (.bool (isSign r)) ∧ w' = w := by
  rcases (show r < 0 ∨ 1114111 < r ∨ (55296 ≤ r ∧ r ≤ 57343) ∨ (0 ≤ r ∧ r < 55296) ∨ (57343 < r ∧ r ≤ 1114111) by omega) with h | h | ⟨h, h'⟩ | ⟨h, h'⟩ | ⟨h, h'⟩
  all_goals
    go_enter Try.func40, Try.ntmps40
    go_wp2
    go_ret
    refine ⟨?_, rfl⟩
    show Ending.returned (Value.bool _) = _
    congr 2; rw [Bool.eq_iff_iff]; simp [isSign]; omega

theorem Bx.pushs {w wr w1 : World} {v v1 : Value} {L ys : List Int} {us : List Value} {n : Nat} (h : Bx w wr v L) (ho : Own w1 5 1 v1 n (bytesV L ++ us)) (hc : Chg wr w1 (blkOf v)) (hf : ∀ k, blkOf v1 k → blkOf v k ∨ wr.heap.size ≤ k) (hu : us = bytesV ys) (hn : n = L.length + ys.length) : Bx w w1 v1 (L ++ ys) := by
  subst hu hn
  refine ⟨by simpa [bytesV] using ho, h.2.1.trans hc (fun i hi hb => by have := h.2.2 i hb; omega), fun k hk => ?_⟩
  rcases hf k hk with h1 | h1
  · exact h.2.2 k h1
  · exact Nat.le_trans h.2.1.size h1

theorem or128 {y : Int} (h0 : 0 ≤ y) (h1 : y < 64) : bits .or .i32 128 y = 128 + y := i32_or6 2 y (by omega) (by omega) h0 h1
theorem or224 {y : Int} (h0 : 0 ≤ y) (h1 : y < 16) : bits .or .i32 224 y % 256 = 224 + y := by
  rw [bits_join .i32 31 (by decide) wraps_i32 4 224 y (by omega) (by omega) (by omega) h0 h1 (by omega)]; omega
theorem or240 {y : Int} (h0 : 0 ≤ y) (h1 : y < 8) : bits .or .i32 240 y % 256 = 240 + y := by
  rw [bits_join .i32 31 (by decide) wraps_i32 3 240 y (by omega) (by omega) (by omega) h0 h1 (by omega)]; omega
theorem or_low {s : Int} (h0 : 0 ≤ s) (h1 : s < 2147483648) : bits .or .i32 128 (bits .and .i32 s 63) % 256 = 128 + s % 64 := by
  rw [i32_and63 s h0 h1, or128 (by omega) (by omega)]; omega
set_option maxRecDepth 100000 in
set_option maxHeartbeats 8000000 in
theorem refEncode_any (w : World) (va : Value) (l : List Int) (ha : Rd w 1 va l.length (runesV l)) (hl : l.length ≤ 1000000) :
    Calls Try.prog 38 #[va] w fun e w' => ∃ v, e = .returned v ∧ Own w' 5 1 v (encL l).length (bytesV (encL l)) ∧ Chg w w' nob ∧ ∀ k, blkOf v k → w.heap.size ≤ k := by
  obtain ⟨a1, c1, rfl, hn1, _, hx1⟩ := ha
  have HC := Lib.hid hx1
  clear hx1
  go_enter Try.func38, Try.ntmps38
  go_wp2
  go_loopw [3, 4] (fun v i wr => ∃ k : Nat, k ≤ l.length ∧ i = .int .i64 k ∧ Hid (Bx w wr v (encL (l.take k)))) (fun _ i _ => l.length - (intOf i).toNat)
  case atStart => exact ⟨0, Nat.zero_le _, rfl, ⟨World.ownsRow_nil w 0 5 1, Chg.refl _ _, fun k hk => by cases hk⟩⟩
  case round =>
    obtain ⟨k, hk, rfl, HI⟩ := hrel
    by_cases hkl : k < l.length
    · have hki : (k : Int) < (l.length : Int) := by omega
      obtain ⟨g, o, rfl, hcx⟩ := HC.out k (.int .i32 (l.getD k 0)) (by simp [runesV, List.getD, hkl])
      have hcr := HI.out.2.1.cell hcx id
      have hsn : encL (l.take (k + 1)) = encL (l.take k) ++ encS (fixR (l.getD k 0)) := by rw [take_snoc hkl (0 : Int), encL_snoc]; rfl
      have hle := encL_len (l.take k)
      rw [List.length_take] at hle
      generalize l.getD k 0 = r at *
      have HSN := Lib.hid hsn
      clear hsn hcx
      generalize encL (l.take k) = L at *
      go_wp2_with fail
      go_at_call 40
      refine (refSign_any wr r).mono ?_
      rintro e w' ⟨rfl, rfl⟩
      obtain ⟨bb, hbb⟩ : ∃ bb, isSign r = bb := ⟨_, rfl⟩
      rw [hbb]
      have HBB := Lib.hid hbb
      clear hbb
      have hnb : (!bb) = !bb := rfl
      go_upto_if 18 with (fail)
      go_cut [5] (fun v wx => v = .int .i32 (fixR r) ∧ wx = w')
      case first =>
        cases bb
        · have hf : fixR r = 65533 := by unfold fixR; rw [if_neg (by rw [HBB.out]; simp)]
          go_wp2
          go_meet
          exact ⟨by rw [hf], rfl⟩
        · have hf : fixR r = r := by unfold fixR; rw [if_pos HBB.out]
          go_wp2
          go_meet
          exact ⟨by rw [hf], rfl⟩
      case rest =>
        obtain ⟨rfl, rfl⟩ := hcut
        have hsg := fixR_sign r
        generalize fixR r = s at *
        obtain ⟨b1, b2, b3⟩ := isSign_b hsg
        clear hsg hcr
        obtain ⟨ao, co, rfl, hLc, _⟩ := HI.out.1.form
        by_cases s1 : s < 128
        · skip
          go_wp2_with (at_builtin; refine wpList_push rfl (.tmp 43) (.tmp 46) 44 rfl 5 (.int .u8 0) 1 1 i_byte u_bytes rfl (by decide) _ L.length _ rfl HI.out.1 1 1 rfl rfl rfl (by unfold maxLen; omega) (by omega) ?_)
          intro v1 w1 ho hch hfo
          have hb1 := HI.out.pushs (ys := encS s) ho hch hfo (by unfold encS; rw [if_pos s1]; rfl) (by unfold encS; rw [if_pos s1]; rfl)
          have HB1 : Hid (Bx w w1 v1 (encL (l.take (k + 1)))) := Lib.hid (by rw [HSN.out]; exact hb1)
          clear ho hch hfo hb1
          go_wp2
          go_roundw
          case rel => exact ⟨k + 1, by omega, by go_num, HB1⟩
          case measure => simp [intOf]; omega
        · by_cases s2 : s < 2048
          · skip
            go_wp2_with (at_builtin; refine wpList_push rfl (.tmp 51) (.tmp 60) 44 rfl 5 (.int .u8 0) 1 1 i_byte u_bytes rfl (by decide) _ L.length _ rfl HI.out.1 2 2 rfl rfl rfl (by unfold maxLen; omega) (by omega) ?_)
            intro v1 w1 ho hch hfo
            have hb1 := HI.out.pushs (ys := encS s) ho hch hfo (by unfold encS; rw [if_neg (by omega), if_pos (by omega), or_low (by omega) (by omega)]; rfl) (by unfold encS; rw [if_neg (by omega), if_pos (by omega)]; rfl)
            have HB1 : Hid (Bx w w1 v1 (encL (l.take (k + 1)))) := Lib.hid (by rw [HSN.out]; exact hb1)
            clear ho hch hfo hb1
            go_wp2
            go_roundw
            case rel => exact ⟨k + 1, by omega, by go_num, HB1⟩
            case measure => simp [intOf]; omega
          · by_cases s3 : s < 65536
            · skip
              go_wp2_with (at_builtin; refine wpList_push rfl (.tmp 65) (.tmp 79) 44 rfl 5 (.int .u8 0) 1 1 i_byte u_bytes rfl (by decide) _ L.length _ rfl HI.out.1 3 3 rfl rfl rfl (by unfold maxLen; omega) (by omega) ?_)
              intro v1 w1 ho hch hfo
              have hb1 := HI.out.pushs (ys := encS s) ho hch hfo (by unfold encS; rw [if_neg (by omega), if_neg (by omega), if_pos (by omega)]; rw [or_low (by omega) (by omega), or_low (by omega) (by omega), or224 (by omega) (by omega)]; rfl) (by unfold encS; rw [if_neg (by omega), if_neg (by omega), if_pos (by omega)]; rfl)
              have HB1 : Hid (Bx w w1 v1 (encL (l.take (k + 1)))) := Lib.hid (by rw [HSN.out]; exact hb1)
              clear ho hch hfo hb1
              go_wp2
              go_roundw
              case rel => exact ⟨k + 1, by omega, by go_num, HB1⟩
              case measure => simp [intOf]; omega
            · skip
              go_wp2_with (at_builtin; refine wpList_push rfl (.tmp 19) (.tmp 38) 44 rfl 5 (.int .u8 0) 1 1 i_byte u_bytes rfl (by decide) _ L.length _ rfl HI.out.1 4 4 rfl rfl rfl (by unfold maxLen; omega) (by omega) ?_)
              intro v1 w1 ho hch hfo
              have hb1 := HI.out.pushs (ys := encS s) ho hch hfo (by unfold encS; rw [if_neg (by omega), if_neg (by omega), if_neg (by omega)]; rw [or_low (by omega) (by omega), or_low (by omega) (by omega), or_low (by omega) (by omega), or240 (by omega) (by omega)]; rfl) (by unfold encS; rw [if_neg (by omega), if_neg (by omega), if_neg (by omega)]; rfl)
              have HB1 : Hid (Bx w w1 v1 (encL (l.take (k + 1)))) := Lib.hid (by rw [HSN.out]; exact hb1)
              clear ho hch hfo hb1
              go_wp2
              go_roundw
              case rel => exact ⟨k + 1, by omega, by go_num, HB1⟩
              case measure => simp [intOf]; omega
    · obtain rfl : k = l.length := by omega
      go_wp2
      go_ret
      have h := HI.out
      rw [List.take_length] at h
      exact ⟨_, rfl, h.1, h.2.1, h.2.2⟩


theorem enc_same (r : Int) : (Utf8.encode r).data.toList = (encR r).map (fun n => UInt8.ofNat n.toNat) := by
  have hv : Utf8.valid r = isSign r := by rw [Bool.eq_iff_iff]; simp [Utf8.valid, isSign]; omega
  obtain ⟨n, hn⟩ := Int.eq_ofNat_of_zero_le (isSign_b (fixR_sign r)).1
  have hc : (if Utf8.valid r = true then r.toNat else Utf8.runeError) = n := by
    rw [hv]
    unfold fixR at hn
    split at hn <;> rename_i h
    · rw [if_pos h, hn]; rfl
    · rw [if_neg h]
      have : n = 65533 := by omega
      rw [this]; rfl
  unfold Utf8.encode encR encS
  rw [hc, hn]
  by_cases h1 : n < 128
  · have h1' : (n : Int) < 128 := by omega
    rw [if_pos h1']
    simp [h1]
  · have h1' : ¬ (n : Int) < 128 := by omega
    rw [if_neg h1']
    by_cases h2 : n < 2048
    · have h2' : (n : Int) < 2048 := by omega
      rw [if_pos h2']
      have e1 : (192 + (n : Int) / 64).toNat = 192 + n / 64 := by omega
      have e2 : (128 + (n : Int) % 64).toNat = 128 + n % 64 := by omega
      simp only [List.map_cons, List.map_nil, e1, e2]
      simp only [h1, h2, if_true, if_false]
    · have h2' : ¬ (n : Int) < 2048 := by omega
      rw [if_neg h2']
      by_cases h3 : n < 65536
      · have h3' : (n : Int) < 65536 := by omega
        rw [if_pos h3']
        have e1 : (224 + (n : Int) / 4096).toNat = 224 + n / 4096 := by omega
        have e2 : (128 + (n : Int) / 64 % 64).toNat = 128 + n / 64 % 64 := by omega
        have e3 : (128 + (n : Int) % 64).toNat = 128 + n % 64 := by omega
        simp only [List.map_cons, List.map_nil, e1, e2, e3]
        simp only [h1, h2, h3, if_true, if_false]
      · have h3' : ¬ (n : Int) < 65536 := by omega
        rw [if_neg h3']
        have e1 : (240 + (n : Int) / 262144).toNat = 240 + n / 262144 := by omega
        have e2 : (128 + (n : Int) / 4096 % 64).toNat = 128 + n / 4096 % 64 := by omega
        have e3 : (128 + (n : Int) / 64 % 64).toNat = 128 + n / 64 % 64 := by omega
        have e4 : (128 + (n : Int) % 64).toNat = 128 + n % 64 := by omega
        simp only [List.map_cons, List.map_nil, e1, e2, e3, e4]
        simp only [h1, h2, h3, if_false]
theorem runes_fold : ∀ (t : List Int) (b : ByteArray), (t.foldl (fun r n => r ++ Utf8.encode n) b).data.toList = b.data.toList ++ (encL t).map (fun n => UInt8.ofNat n.toNat)
  | [], b => by simp [encL]
  | r :: t, b => by
    rw [List.foldl_cons, runes_fold t, ByteArray.data_append, Array.toList_append, enc_same]
    simp [encL]
theorem runes_enc (t : List Int) : strOfNums (encL t) = runesBytes t := by
  have e := runes_fold t ByteArray.empty
  apply ByteArray.ext
  apply Array.toList_inj.1
  rw [strOfNums_data]
  unfold runesBytes
  rw [e]
  rfl
end Go.Proofs.Ytaficleoimfejaa.Enc
