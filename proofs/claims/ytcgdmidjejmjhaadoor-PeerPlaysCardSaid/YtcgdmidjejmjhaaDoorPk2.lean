
/-
  Packets: Seal; the document's.
-/
import Derived.Test.YtcgdmidjejmjhaaDoorPk
namespace Go.Proofs.YtcgdmidjejmjhaaDoor
open Go.RowKit
set_option linter.unusedVariables false
set_option linter.unusedSimpArgs false

def headL (p : Pk) : List Int := [IntKind.u8.wrap p.d, IntKind.u8.wrap p.v] ++ eightL p.n.toNat
def textL (p : Pk) : List Int := headL p ++ p.b
def sealL (k : List Int) (p : Pk) : List Int := textL p ++ tagL k (textL p)
/-- What Seal tells, and why not. -/
def sealR (k : List Int) (p : Pk) : List Int := if p.May then sealL k p else []
def sealE (p : Pk) : Int := if p.May then 0 else 1
theorem wrap8_b (x : Int) : 0 ≤ IntKind.u8.wrap x ∧ IntKind.u8.wrap x ≤ 255 := by simp only [IntKind.wrap, IntKind.bits, IntKind.signed]; simp; omega
theorem eightL_byte (n : Nat) : ∀ x ∈ eightL n, 0 ≤ x ∧ x ≤ 255 := by
  intro x hx
  simp only [eightL, List.mem_cons, List.not_mem_nil, or_false] at hx
  rcases hx with rfl | rfl | rfl | rfl | rfl | rfl | rfl | rfl <;> omega
theorem headL_byte (p : Pk) : ∀ x ∈ headL p, 0 ≤ x ∧ x ≤ 255 := by
  intro x hx
  rcases List.mem_append.1 hx with h | h
  · simp only [List.mem_cons, List.not_mem_nil, or_false] at h
    rcases h with rfl | rfl <;> exact wrap8_b _
  · exact eightL_byte _ x h
theorem textL_byte (p : Pk) (hb : ∀ x ∈ p.b, 0 ≤ x ∧ x ≤ 255) : ∀ x ∈ textL p, 0 ≤ x ∧ x ≤ 255 := by
  intro x hx
  rcases List.mem_append.1 hx with h | h
  · exact headL_byte p x h
  · exact hb x h
theorem sealL_byte (k : List Int) (p : Pk) (hb : ∀ x ∈ p.b, 0 ≤ x ∧ x ≤ 255) : ∀ x ∈ sealL k p, 0 ≤ x ∧ x ≤ 255 := by
  intro x hx
  rcases List.mem_append.1 hx with h | h
  · exact textL_byte p hb x h
  · exact tg3_byte _ _ x h
theorem textL_len (p : Pk) : (textL p).length = 10 + p.b.length := by simp [textL, headL, eightL]; omega
theorem sealL_len (k : List Int) (p : Pk) : (sealL k p).length = 26 + p.b.length := by rw [sealL, List.length_append, tagL_len, textL_len]; omega
set_option maxRecDepth 100000 in
set_option maxHeartbeats 1500000 in
theorem seal_any (w : World) (p : Pk) (K : List Int) (vk vb : Value) (ht : Tab w) (hk : By w vk K) (hb : By w vb p.b) (hp : p.Ok) (hkl : K.length ≤ 1000000) (hbl : p.b.length ≤ 100000) :
    Calls Tryd.prog 20 #[vk, pkV p vb] w fun e w' => ∃ v, e = .returned (.tuple #[v, .int .i64 (sealE p)]) ∧ Bx w w' v (sealR K p) := by
  have HK := Lib.hid hk
  have HB := Lib.hid hb
  have HT := Lib.hid ht
  have HP := Lib.hid hp
  clear hk hb ht hp
  by_cases hm : p.May
  · have HE : Hid (sealE p = 0 ∧ sealR K p = sealL K p) := Lib.hid ⟨if_pos hm, if_pos hm⟩
    have HM := Lib.hid (decide_eq_true hm)
    rw [HE.out.1, HE.out.2]
    obtain ⟨m1, m2, m3, m4, m5, m6⟩ := hm
    obtain ⟨d, v, n, b⟩ := p
    simp only at m1 m2 m3 m4 m5 m6 hbl HB
    obtain ⟨N, rfl⟩ : ∃ N : Nat, n = (N : Int) := ⟨n.toNat, by omega⟩
    have hwd : IntKind.u8.wrap d = d := wraps_u8 d (by omega) (by omega)
    have hwv : IntKind.u8.wrap v = v := wraps_u8 v (by omega) (by omega)
    have HTX : Hid (textL ⟨d, v, (N : Int), b⟩ = [d, v] ++ eightL N ++ b) := Lib.hid (by simp [textL, headL, hwd, hwv])
    obtain ⟨X, hX⟩ : ∃ X, textL ⟨d, v, (N : Int), b⟩ = X := ⟨_, rfl⟩
    have HSL : Hid (sealL K ⟨d, v, (N : Int), b⟩ = X ++ tagL K X) := Lib.hid (by rw [← hX]; rfl)
    have HXL : Hid (X.length = 10 + b.length) := Lib.hid (by rw [← hX, textL_len])
    have HXB : Hid (∀ x ∈ X, 0 ≤ x ∧ x ≤ 255) := Lib.hid (by rw [← hX]; exact textL_byte _ HB.out.byte)
    rw [hX] at HTX
    rw [HSL.out]
    clear hX HE HP
    simp only [pkV]
    have hb8 : Hid (0 ≤ d ∧ d ≤ 255 ∧ 0 ≤ v ∧ v ≤ 255) := Lib.hid ⟨by omega, by omega, by omega, by omega⟩
    go_enter Tryd.func20, Tryd.ntmps20
    go_wp2_with fail
    go_at_call 16
    refine (may_any _ ⟨d, v, (N : Int), b⟩ vb (HB.out.alloc _)).mono ?_
    rw [HM.out]
    rintro e w1 ⟨rfl, hc1⟩
    have HG : Hid (Blk w1 w.heap.size 48 #[.int .i64 d, .int .i64 v, .int .u64 N, vb]) := Lib.hid ((Blk.new w _ _).kept hc1 id)
    have HC : Hid (Chg w w1 nob) := Lib.hid (((Chg.refl w nob).alloc _).trans hc1 (fun _ _ h => h))
    clear hc1
    have g0 := HG.out.cell 0
    have g1 := HG.out.cell 1
    have g2 := HG.out.cell 2
    have g3 := HG.out.cell 3
    simp only [List.getElem?_toArray, List.getElem?_cons_zero, List.getElem?_cons_succ] at g0 g1 g2 g3
    have HGS : Hid (w.heap.size < w1.heap.size) := Lib.hid HG.out.lt
    go_wp2_with fail
    obtain ⟨W0, hW0⟩ : ∃ W, World.alloc w1 (.cells #[.int .u8 d, .int .u8 v] 5) = W := ⟨_, rfl⟩
    have HB0 : Hid (Bx w1 W0 (.slice (some ⟨w1.heap.size, 0, none⟩) 2 2) ([d, v] ++ (eightL N).take 0)) := Lib.hid (by
      rw [← hW0]
      exact ⟨Own.lit w1 5 (bytesV [d, v]).toArray (by show 2 ≤ 1000; decide), (Chg.refl w1 nob).alloc _, fun k hk => by cases hk; exact Nat.le_refl _⟩)
    have HG0 : Hid (Blk W0 w.heap.size 48 #[.int .i64 d, .int .i64 v, .int .u64 N, vb]) := Lib.hid (by rw [← hW0]; exact HG.out.alloc _)
    rw [hW0]
    clear hW0 HG g0 g1 g2 g3
    go_loopw [6, 7] (fun bv iv wr => ∃ k : Nat, k ≤ 8 ∧ iv = .int .i64 (56 - 8 * (k : Int)) ∧ Hid (Bx w1 wr bv ([d, v] ++ (eightL N).take k)) ∧ Hid (Blk wr w.heap.size 48 #[.int .i64 d, .int .i64 v, .int .u64 N, vb])) (fun _ iv _ => (intOf iv + 8).toNat)
    case atStart => exact ⟨0, by omega, rfl, HB0, HG0⟩
    case round =>
      obtain ⟨k, hk, rfl, HK1, HG⟩ := hrel
      clear HB0 HG0
      obtain ⟨m, hm⟩ : ∃ m : Nat, m = 2 := ⟨2, rfl⟩
      have HM2 := Lib.hid hm
      have hm2 : m ≤ 2 := by omega
      have hkl : ([d, v] ++ (eightL N).take k).length = m + k := by rw [List.length_append, List.length_take, show (eightL N).length = 8 from rfl]; simp; omega
      obtain ⟨av2, cv2, rfl, _⟩ := HK1.out.1.form
      have hK2 : Bx w1 wr (.slice av2 (m + k) cv2) ([d, v] ++ (eightL N).take k) := by rw [← hkl]; exact HK1.out
      have HK2 := Lib.hid hK2
      have g2 := HG.out.cell 2
      have g3 := HG.out.cell 3
      simp only [List.getElem?_toArray, List.getElem?_cons_zero, List.getElem?_cons_succ] at g2 g3
      have HKL := Lib.hid hkl
      rw [hkl]
      clear hK2 hkl HK1 hm
      rcases (show k = 8 ∨ k = 7 ∨ k = 6 ∨ k = 5 ∨ k = 4 ∨ k = 3 ∨ k = 2 ∨ k = 1 ∨ k = 0 by omega) with rfl | rfl | rfl | rfl | rfl | rfl | rfl | rfl | rfl
      · have HC2 : Hid (Chg w wr nob) := Lib.hid (HC.out.trans HK2.out.2.1 (fun _ _ h => h))
        go_wp2_with (at_builtin; refine wpList_by rfl (.tmp 30) (.tmp 32) rfl HK2.out (HB.out.kept HC2.out) (by simp [eightL]; omega) rfl rfl ?_)
        intro v3 w3 hb3 _
        have hb3 : Bx w1 w3 v3 X := by rw [HTX.out]; exact hb3
        have HB3 := Lib.hid hb3
        have HC3 : Hid (Chg w w3 nob) := Lib.hid (HC.out.trans hb3.2.1 (fun _ _ h => h))
        obtain ⟨a3, c3, rfl, _⟩ := hb3.1.form
        clear hb3 g2 g3
        go_wp2_with fail
        go_at_call 26
        refine (tag_one (HT.out.kept HC3.out id) (HK.out.kept HC3.out) hkl (By.ofBx HB3.out HXB.out) (by rw [HXL.out]; omega)).mono ?_
        rintro e w4 ⟨v4, rfl, hb4, hc4⟩
        have HB4 := Lib.hid hb4
        have HB5 := Lib.hid (HB3.out.keptC hc4)
        clear hb4 hc4
        go_wp2_with (at_builtin; refine wpList_by rfl (.tmp 34) (.tmp 38) rfl HB5.out HB4.out (by rw [HXL.out, tagL_len]; omega) rfl rfl ?_)
        intro v6 w6 hb6 _
        have HB6 := Lib.hid hb6
        clear hb6
        go_wp2
        go_ret2
        exact ⟨_, rfl, HB6.out.newer HC.out⟩
      · go_wp2_with (at_builtin; refine wpList_push rfl (.tmp 22) (.tmp 28) 22 rfl 5 (.int .u8 0) 1 1 i_byte u_bytes rfl (by decide) (.slice av2 (m + 7) cv2) _ _ rfl HK2.out.1 1 1 rfl rfl rfl (by unfold maxLen; have := HKL.out; omega) (by have := HKL.out; omega) ?_)
        intro v3 w3 ho hch hfo
        have hb := HK2.out.pushs (ys := [(eightL N).getD 7 0]) ho hch hfo (by simp [bytesV, eightL] <;> omega) (by simp [eightL, HM2.out])
        rw [List.append_assoc, show (eightL N).take 7 ++ [(eightL N).getD 7 0] = (eightL N).take (7 + 1) from rfl] at hb
        have HB3 := Lib.hid hb
        have HG3 := Lib.hid (HG.out.kept hch (fun h => by have := HK2.out.2.2 _ h; have := HGS.out; omega))
        obtain ⟨av3, cv3, rfl, _⟩ := ho.form
        clear hb ho hch hfo
        go_wp2_with fail
        go_roundw
        case rel => exact ⟨7 + 1, by omega, by go_num, HB3, HG3⟩
        case measure => simp [intOf]
      · go_wp2_with (at_builtin; refine wpList_push rfl (.tmp 22) (.tmp 28) 22 rfl 5 (.int .u8 0) 1 1 i_byte u_bytes rfl (by decide) (.slice av2 (m + 6) cv2) _ _ rfl HK2.out.1 1 1 rfl rfl rfl (by unfold maxLen; have := HKL.out; omega) (by have := HKL.out; omega) ?_)
        intro v3 w3 ho hch hfo
        have hb := HK2.out.pushs (ys := [(eightL N).getD 6 0]) ho hch hfo (by simp [bytesV, eightL] <;> omega) (by simp [eightL, HM2.out])
        rw [List.append_assoc, show (eightL N).take 6 ++ [(eightL N).getD 6 0] = (eightL N).take (6 + 1) from rfl] at hb
        have HB3 := Lib.hid hb
        have HG3 := Lib.hid (HG.out.kept hch (fun h => by have := HK2.out.2.2 _ h; have := HGS.out; omega))
        obtain ⟨av3, cv3, rfl, _⟩ := ho.form
        clear hb ho hch hfo
        go_wp2_with fail
        go_roundw
        case rel => exact ⟨6 + 1, by omega, by go_num, HB3, HG3⟩
        case measure => simp [intOf]
      · go_wp2_with (at_builtin; refine wpList_push rfl (.tmp 22) (.tmp 28) 22 rfl 5 (.int .u8 0) 1 1 i_byte u_bytes rfl (by decide) (.slice av2 (m + 5) cv2) _ _ rfl HK2.out.1 1 1 rfl rfl rfl (by unfold maxLen; have := HKL.out; omega) (by have := HKL.out; omega) ?_)
        intro v3 w3 ho hch hfo
        have hb := HK2.out.pushs (ys := [(eightL N).getD 5 0]) ho hch hfo (by simp [bytesV, eightL] <;> omega) (by simp [eightL, HM2.out])
        rw [List.append_assoc, show (eightL N).take 5 ++ [(eightL N).getD 5 0] = (eightL N).take (5 + 1) from rfl] at hb
        have HB3 := Lib.hid hb
        have HG3 := Lib.hid (HG.out.kept hch (fun h => by have := HK2.out.2.2 _ h; have := HGS.out; omega))
        obtain ⟨av3, cv3, rfl, _⟩ := ho.form
        clear hb ho hch hfo
        go_wp2_with fail
        go_roundw
        case rel => exact ⟨5 + 1, by omega, by go_num, HB3, HG3⟩
        case measure => simp [intOf]
      · go_wp2_with (at_builtin; refine wpList_push rfl (.tmp 22) (.tmp 28) 22 rfl 5 (.int .u8 0) 1 1 i_byte u_bytes rfl (by decide) (.slice av2 (m + 4) cv2) _ _ rfl HK2.out.1 1 1 rfl rfl rfl (by unfold maxLen; have := HKL.out; omega) (by have := HKL.out; omega) ?_)
        intro v3 w3 ho hch hfo
        have hb := HK2.out.pushs (ys := [(eightL N).getD 4 0]) ho hch hfo (by simp [bytesV, eightL] <;> omega) (by simp [eightL, HM2.out])
        rw [List.append_assoc, show (eightL N).take 4 ++ [(eightL N).getD 4 0] = (eightL N).take (4 + 1) from rfl] at hb
        have HB3 := Lib.hid hb
        have HG3 := Lib.hid (HG.out.kept hch (fun h => by have := HK2.out.2.2 _ h; have := HGS.out; omega))
        obtain ⟨av3, cv3, rfl, _⟩ := ho.form
        clear hb ho hch hfo
        go_wp2_with fail
        go_roundw
        case rel => exact ⟨4 + 1, by omega, by go_num, HB3, HG3⟩
        case measure => simp [intOf]
      · go_wp2_with (at_builtin; refine wpList_push rfl (.tmp 22) (.tmp 28) 22 rfl 5 (.int .u8 0) 1 1 i_byte u_bytes rfl (by decide) (.slice av2 (m + 3) cv2) _ _ rfl HK2.out.1 1 1 rfl rfl rfl (by unfold maxLen; have := HKL.out; omega) (by have := HKL.out; omega) ?_)
        intro v3 w3 ho hch hfo
        have hb := HK2.out.pushs (ys := [(eightL N).getD 3 0]) ho hch hfo (by simp [bytesV, eightL] <;> omega) (by simp [eightL, HM2.out])
        rw [List.append_assoc, show (eightL N).take 3 ++ [(eightL N).getD 3 0] = (eightL N).take (3 + 1) from rfl] at hb
        have HB3 := Lib.hid hb
        have HG3 := Lib.hid (HG.out.kept hch (fun h => by have := HK2.out.2.2 _ h; have := HGS.out; omega))
        obtain ⟨av3, cv3, rfl, _⟩ := ho.form
        clear hb ho hch hfo
        go_wp2_with fail
        go_roundw
        case rel => exact ⟨3 + 1, by omega, by go_num, HB3, HG3⟩
        case measure => simp [intOf]
      · go_wp2_with (at_builtin; refine wpList_push rfl (.tmp 22) (.tmp 28) 22 rfl 5 (.int .u8 0) 1 1 i_byte u_bytes rfl (by decide) (.slice av2 (m + 2) cv2) _ _ rfl HK2.out.1 1 1 rfl rfl rfl (by unfold maxLen; have := HKL.out; omega) (by have := HKL.out; omega) ?_)
        intro v3 w3 ho hch hfo
        have hb := HK2.out.pushs (ys := [(eightL N).getD 2 0]) ho hch hfo (by simp [bytesV, eightL] <;> omega) (by simp [eightL, HM2.out])
        rw [List.append_assoc, show (eightL N).take 2 ++ [(eightL N).getD 2 0] = (eightL N).take (2 + 1) from rfl] at hb
        have HB3 := Lib.hid hb
        have HG3 := Lib.hid (HG.out.kept hch (fun h => by have := HK2.out.2.2 _ h; have := HGS.out; omega))
        obtain ⟨av3, cv3, rfl, _⟩ := ho.form
        clear hb ho hch hfo
        go_wp2_with fail
        go_roundw
        case rel => exact ⟨2 + 1, by omega, by go_num, HB3, HG3⟩
        case measure => simp [intOf]
      · go_wp2_with (at_builtin; refine wpList_push rfl (.tmp 22) (.tmp 28) 22 rfl 5 (.int .u8 0) 1 1 i_byte u_bytes rfl (by decide) (.slice av2 (m + 1) cv2) _ _ rfl HK2.out.1 1 1 rfl rfl rfl (by unfold maxLen; have := HKL.out; omega) (by have := HKL.out; omega) ?_)
        intro v3 w3 ho hch hfo
        have hb := HK2.out.pushs (ys := [(eightL N).getD 1 0]) ho hch hfo (by simp [bytesV, eightL] <;> omega) (by simp [eightL, HM2.out])
        rw [List.append_assoc, show (eightL N).take 1 ++ [(eightL N).getD 1 0] = (eightL N).take (1 + 1) from rfl] at hb
        have HB3 := Lib.hid hb
        have HG3 := Lib.hid (HG.out.kept hch (fun h => by have := HK2.out.2.2 _ h; have := HGS.out; omega))
        obtain ⟨av3, cv3, rfl, _⟩ := ho.form
        clear hb ho hch hfo
        go_wp2_with fail
        go_roundw
        case rel => exact ⟨1 + 1, by omega, by go_num, HB3, HG3⟩
        case measure => simp [intOf]
      · go_wp2_with (at_builtin; refine wpList_push rfl (.tmp 22) (.tmp 28) 22 rfl 5 (.int .u8 0) 1 1 i_byte u_bytes rfl (by decide) (.slice av2 (m + 0) cv2) _ _ rfl HK2.out.1 1 1 rfl rfl rfl (by unfold maxLen; have := HKL.out; omega) (by have := HKL.out; omega) ?_)
        intro v3 w3 ho hch hfo
        have hb := HK2.out.pushs (ys := [(eightL N).getD 0 0]) ho hch hfo (by simp [bytesV, eightL] <;> omega) (by simp [eightL, HM2.out])
        rw [List.append_assoc, show (eightL N).take 0 ++ [(eightL N).getD 0 0] = (eightL N).take (0 + 1) from rfl] at hb
        have HB3 := Lib.hid hb
        have HG3 := Lib.hid (HG.out.kept hch (fun h => by have := HK2.out.2.2 _ h; have := HGS.out; omega))
        obtain ⟨av3, cv3, rfl, _⟩ := ho.form
        clear hb ho hch hfo
        go_wp2_with fail
        go_roundw
        case rel => exact ⟨0 + 1, by omega, by go_num, HB3, HG3⟩
        case measure => simp [intOf]
  · have HE : Hid (sealE p = 1 ∧ sealR K p = []) := Lib.hid ⟨if_neg hm, if_neg hm⟩
    have HM := Lib.hid (decide_eq_false hm)
    rw [HE.out.1, HE.out.2]
    simp only [pkV]
    go_enter Tryd.func20, Tryd.ntmps20
    go_wp2_with fail
    go_at_call 16
    refine (may_any _ p vb (HB.out.alloc _)).mono ?_
    rw [HM.out]
    rintro e w1 ⟨rfl, hc1⟩
    have HC : Hid (Chg w w1 nob) := Lib.hid (((Chg.refl w nob).alloc _).trans hc1 (fun _ _ h => h))
    go_wp2
    go_ret2
    exact ⟨_, rfl, (Bx.nil w1).newer HC.out⟩
end Go.Proofs.YtcgdmidjejmjhaaDoor
