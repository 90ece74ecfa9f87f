
/-
  The sum of bytes of chapter 2: wire.Crc, and the document's.
-/
import Derived.Test.YtmekakecdgblaaaCrcP
import Derived.Test.YtmekakecdgblaaaA
namespace Go.Proofs.Ytmekakecdgblaaa
open Go.RowKit
set_option linter.unusedVariables false
set_option linter.unusedSimpArgs false

theorem crc_u8 (x : Int) (h0 : 0 ≤ x) (h1 : x ≤ 255) : IntKind.u32.wrap x = x := by simp only [IntKind.wrap, IntKind.bits, IntKind.signed]; simp; omega
set_option maxRecDepth 100000 in
set_option maxHeartbeats 1500000 in
theorem crc_any (w : World) (v : Value) (L : List Int) (h : By w v L) (hl : L.length ≤ 1000000000) :
    Calls Try.prog 17 #[v] w fun e w' => e = .returned (.int .u32 (crcL L)) ∧ w' = w := by
  obtain ⟨a, c, rfl, hc⟩ := h.form
  have HB := Lib.hid h
  obtain ⟨T, hT⟩ : ∃ T, L.foldl crcC 4294967295 = T := ⟨_, rfl⟩
  have HT := Lib.hid hT
  have HX : Hid (crcL L = bits .xor .u32 T 4294967295) := Lib.hid (by rw [← hT]; rfl)
  clear h hT
  go_enter Try.func17, Try.ntmps17
  go_wp2
  go_loopw [3, 9] (fun sv iv wr => ∃ (i : Nat) (s : Int), i ≤ L.length ∧ iv = .int .i64 i ∧ sv = .int .u32 s ∧ Hid ((L.drop i).foldl crcC s = T) ∧ w = wr) (fun _ iv _ => L.length - (intOf iv).toNat)
  case atStart => exact ⟨0, _, Nat.zero_le _, rfl, rfl, Lib.hid HT.out, rfl⟩
  case round =>
    obtain ⟨i, s, hi, rfl, rfl, HS, rfl⟩ := hrel
    by_cases hd : i < L.length
    · have hdi : (i : Int) < (L.length : Int) := by omega
      obtain ⟨g, o, rfl, hcell⟩ := HB.out.cell hd
      obtain ⟨x, hx⟩ : ∃ x, L.getD i 0 = x := ⟨_, rfl⟩
      have hxb := HB.out.byte x (by rw [← hx, List.getD_eq_getElem?_getD, List.getElem?_eq_getElem hd]; simp)
      have hwx := crc_u8 x hxb.1 hxb.2
      have HN : Hid ((L.drop (i + 1)).foldl crcC (crcC s x) = T) := Lib.hid (by
        have h := HS.out
        rw [List.drop_eq_getElem_cons hd, List.foldl_cons] at h
        have e : L[i] = x := by rw [← hx, List.getD_eq_getElem?_getD, List.getElem?_eq_getElem hd]; simp
        rwa [e] at h)
      rw [hx] at hcell
      clear hx
      go_wp2
      go_loopw [3, 17] (fun sv kv wr => ∃ (k : Nat) (z : Int), k ≤ 8 ∧ kv = .int .i64 k ∧ sv = .int .u32 z ∧ Hid (crcF (8 - k) z = crcC s x) ∧ w = wr) (fun _ kv _ => 8 - (intOf kv).toNat)
      case atStart => exact ⟨0, _, by omega, rfl, rfl, Lib.hid rfl, rfl⟩
      case round =>
        obtain ⟨k, z, hk, rfl, rfl, HZ, rfl⟩ := hrel
        by_cases hk8 : k < 8
        · have hki : (k : Int) < 8 := by omega
          have HZ2 : Hid (crcF (8 - (k + 1)) (crcB z) = crcC s x) := Lib.hid (by
            have h := HZ.out
            rwa [show 8 - k = (8 - (k + 1)) + 1 by omega] at h)
          go_wp2
          go_roundw
          case rel => exact ⟨k + 1, _, by omega, by go_num, rfl, HZ2, by first | rfl | trivial⟩
          case measure => simp [intOf]; omega
        · have hki : ¬ (k : Int) < 8 := by omega
          have hz : z = crcC s x := by
            have h := HZ.out
            rwa [show 8 - k = 0 by omega] at h
          subst hz
          go_wp2
          go_roundw
          case rel => exact ⟨i + 1, _, by omega, by go_num, rfl, HN, by first | rfl | trivial⟩
          case measure => simp [intOf]; omega
    · have hdi : ¬ (i : Int) < (L.length : Int) := by omega
      have hs : s = T := by
        have h := HS.out
        rwa [List.drop_eq_nil_of_le (by omega)] at h
      subst hs
      go_wp2
      go_ret
      exact ⟨by rw [HX.out]; rfl, rfl⟩
set_option maxRecDepth 100000 in
set_option maxHeartbeats 1500000 in
theorem rcrc_any (w : World) (v : Value) (L : List Int) (h : By w v L) (hl : L.length ≤ 1000000000) :
    Calls Try.prog 20 #[v] w fun e w' => e = .returned (.int .u32 (crcL L)) ∧ w' = w := by
  obtain ⟨a, c, rfl, hc⟩ := h.form
  have HB := Lib.hid h
  obtain ⟨T, hT⟩ : ∃ T, L.foldl crcC 4294967295 = T := ⟨_, rfl⟩
  have HT := Lib.hid hT
  have HX : Hid (crcL L = bits .xor .u32 4294967295 T) := Lib.hid (by rw [← hT]; exact xor_comm32 _ _)
  clear h hT
  go_enter Try.func20, Try.ntmps20
  go_wp2
  go_loopw [3, 4] (fun sv iv wr => ∃ (i : Nat) (s : Int), i ≤ L.length ∧ iv = .int .i64 i ∧ sv = .int .u32 s ∧ Hid ((L.drop i).foldl crcC s = T) ∧ w = wr) (fun _ iv _ => L.length - (intOf iv).toNat)
  case atStart => exact ⟨0, _, Nat.zero_le _, rfl, rfl, Lib.hid HT.out, rfl⟩
  case round =>
    obtain ⟨i, s, hi, rfl, rfl, HS, rfl⟩ := hrel
    by_cases hd : i < L.length
    · have hdi : (i : Int) < (L.length : Int) := by omega
      obtain ⟨g, o, rfl, hcell⟩ := HB.out.cell hd
      obtain ⟨x, hx⟩ : ∃ x, L.getD i 0 = x := ⟨_, rfl⟩
      have hxb := HB.out.byte x (by rw [← hx, List.getD_eq_getElem?_getD, List.getElem?_eq_getElem hd]; simp)
      have hwx := crc_u8 x hxb.1 hxb.2
      have HN : Hid ((L.drop (i + 1)).foldl crcC (crcC s x) = T) := Lib.hid (by
        have h := HS.out
        rw [List.drop_eq_getElem_cons hd, List.foldl_cons] at h
        have e : L[i] = x := by rw [← hx, List.getD_eq_getElem?_getD, List.getElem?_eq_getElem hd]; simp
        rwa [e] at h)
      rw [hx] at hcell
      clear hx
      go_wp2
      go_loopw [3, 5] (fun sv kv wr => ∃ (k : Nat) (z : Int), k ≤ 8 ∧ kv = .int .i64 k ∧ sv = .int .u32 z ∧ (0 ≤ z ∧ z < 4294967296) ∧ Hid (crcF (8 - k) z = crcC s x) ∧ w = wr) (fun _ kv _ => 8 - (intOf kv).toNat)
      case atStart => exact ⟨0, _, by omega, rfl, rfl, xor_rng _ _, Lib.hid rfl, rfl⟩
      case round =>
        obtain ⟨k, z, hk, rfl, rfl, ⟨hz0, hz1⟩, HZ, rfl⟩ := hrel
        by_cases hk8 : k < 8
        · have hki : (k : Int) < 8 := by omega
          have HZ2 : Hid (crcF (8 - (k + 1)) (crcB z) = crcC s x) := Lib.hid (by
            have h := HZ.out
            rwa [show 8 - k = (8 - (k + 1)) + 1 by omega] at h)
          have HA := Lib.hid (and1_u32 z hz0 hz1)
          obtain ⟨low, hlow⟩ : ∃ b, bits .and .u32 z 1 = b := ⟨_, rfl⟩
          have hla : low = 0 ∨ low = 1 := by rw [← hlow, HA.out]; omega
          rcases hla with rfl | rfl
          · have HE := Lib.hid (crcB_even z hz0 hz1 (by rw [← HA.out, hlow]))
            go_wp2
            go_roundw
            case rel => exact ⟨k + 1, _, by omega, by go_num, rfl, by omega, by rw [← HE.out]; exact HZ2, by first | rfl | trivial⟩
            case measure => simp [intOf]; omega
          · have HE := Lib.hid (crcB_odd z hz0 hz1 (by rw [← HA.out, hlow]))
            go_wp2
            go_roundw
            case rel => exact ⟨k + 1, _, by omega, by go_num, rfl, xor_rng _ _, by rw [← HE.out]; exact HZ2, by first | rfl | trivial⟩
            case measure => simp [intOf]; omega
        · have hki : ¬ (k : Int) < 8 := by omega
          have hz : z = crcC s x := by
            have h := HZ.out
            rwa [show 8 - k = 0 by omega] at h
          subst hz
          go_wp2
          go_roundw
          case rel => exact ⟨i + 1, _, by omega, by go_num, rfl, HN, by first | rfl | trivial⟩
          case measure => simp [intOf]; omega
    · have hdi : ¬ (i : Int) < (L.length : Int) := by omega
      have hs : s = T := by
        have h := HS.out
        rwa [List.drop_eq_nil_of_le (by omega)] at h
      subst hs
      go_wp2
      go_ret
      exact ⟨by rw [HX.out]; rfl, rfl⟩
end Go.Proofs.Ytmekakecdgblaaa
