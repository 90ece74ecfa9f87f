
/-
  Package mac: what is filled; bytes.Clone.
-/
import Derived.Test.YtcgdmidjejmjhaaDoorNil
import Derived.Test.YtcgdmidjejmjhaaDoorSha
namespace Go.Proofs.YtcgdmidjejmjhaaDoor
open Go.RowKit
set_option linter.unusedVariables false
set_option linter.unusedSimpArgs false

section
variable {w0 w : World} {a : Act} {K : Act → World → Prop} {Q : Exit → Act → World → Prop} {o : Oper} {ops : Array Oper}
/-- Bytes read put behind bytes of one's own. -/
theorem wp_bxr (s x : Operand) (ho : o.op = .call { callee := .builtin .append, args := #[s, x], argTypes := #[22, 22] })
    (v : Value) (L : List Int) (hs : a.eval s = v) (hB : Bx w0 w v L) (u : Value) (M : List Int) (hx : a.eval x = u) (hM : Rd w 1 u M.length (bytesV M)) (hn : NilOk u) (hl : L.length + M.length ≤ 140737488355328)
    (h : ∀ v' w', Bx w0 w' v' (L ++ M) → Chg w w' (blkOf v) → K (a.put o.dst v') w') : o.wp Tryd.prog a w K Q := by
  obtain ⟨ao, co, rfl, _⟩ := hB.1.form
  obtain ⟨av, cv, rfl, _⟩ := hM.form
  refine wp_app s x 22 ho 5 (.int .u8 0) 1 1 i_byte u_bytes rfl (by decide) (.slice ao L.length co) L.length _ hs hB.1 av M.length cv (bytesV M) hx (hM.nil0 hn) (by simp [bytesV]) hM.news (bytes_one M) (by unfold maxLen; omega) (by omega) ?_
  intro v' w' ho' hc' hf'
  exact h v' w' (hB.pushs (ys := M) ho' hc' hf' rfl (by simp)) hc'
theorem wpList_bxr {rest : List Oper} (hgd : o.guard = none) (s x : Operand) (ho : o.op = .call { callee := .builtin .append, args := #[s, x], argTypes := #[22, 22] })
    (v : Value) (L : List Int) (hs : a.eval s = v) (hB : Bx w0 w v L) (u : Value) (M : List Int) (hx : a.eval x = u) (hM : Rd w 1 u M.length (bytesV M)) (hn : NilOk u) (hl : L.length + M.length ≤ 140737488355328)
    (h : ∀ v' w', Bx w0 w' v' (L ++ M) → Chg w w' (blkOf v) → wpList Tryd.prog ops Q rest (a.put o.dst v') w') : wpList Tryd.prog ops Q (o :: rest) a w :=
  wpList_plain hgd fun _ hK => wp_bxr s x ho v L hs hB u M hx hM hn hl fun v' w' h1 h2 => hK _ _ (h v' w' h1 h2)
end
/-- Bytes just made. -/
theorem Bx.nil (w : World) : Bx w w (.slice none 0 0) [] := ⟨World.ownsRow_nil _ _ _ _, Chg.refl _ _, fun k hk => by cases hk⟩
theorem Bx.lit0 (w : World) : Bx w (w.alloc (.cells #[] 5)) (.slice (some ⟨w.heap.size, 0, none⟩) 0 0) [] :=
  ⟨Own.lit w 5 #[] (by decide), (Chg.refl w nob).alloc _, fun k hk => by cases hk; exact Nat.le_refl _⟩
theorem Bx.alloc {w wr : World} {v : Value} {L : List Int} (h : Bx w wr v L) (o : Obj) : Bx w (wr.alloc o) v L :=
  ⟨h.1.kept ((Chg.refl wr nob).alloc o) (fun _ _ => id), h.2.1.alloc o, h.2.2⟩
theorem Bx.nilOk {w wr : World} {v : Value} {L : List Int} (h : Bx w wr v L) : NilOk v := h.1.nilOk
theorem Rd.lit (w : World) (L : List Int) : Rd (w.alloc (.cells (bytesV L).toArray 5)) 1 (.slice (some ⟨w.heap.size, 0, none⟩) L.length L.length) L.length (bytesV L) := by
  have h := Rd.made w 5 (bytesV L).toArray (size := 1) (n := L.length) (c := L.length) (by simp [bytesV]) (Nat.le_refl _)
  exact h
theorem nilOk_some (a : Addr) (n c : Nat) : NilOk (.slice (some a) n c) := fun _ _ h => by cases h
/-- Bytes of one's own since w are bytes of one's own since an earlier world. -/
theorem Bx.before {w w1 wr : World} {v : Value} {L : List Int} (h : Bx w1 wr v L) (hc : Chg w w1 nob) : Bx w wr v L :=
  ⟨h.1, hc.trans h.2.1 (fun _ _ x => x), fun k hk => Nat.le_trans hc.size (h.2.2 k hk)⟩
set_option maxRecDepth 100000 in
theorem eql_nil (w : World) (a : Option Addr) (n c : Nat) : (binOp .eql 22 (.slice a n c) (.slice none 0 0)).run Tryd.prog w = .ok (.bool a.isNone) w := by
  cases a <;> rfl
set_option maxRecDepth 100000 in
set_option maxHeartbeats 2000000 in
theorem clone_any (w : World) (va : Value) (xs : List Int) (ha : Rd w 1 va xs.length (bytesV xs)) (hn : NilOk va) (hl : xs.length ≤ 1000000) :
    Calls Tryd.prog 17 #[va] w fun e w' => ∃ v, e = .returned v ∧ Bx w w' v xs := by
  obtain ⟨ao, cap, rfl, hc, hlen⟩ := ha.form
  have h0 := ha.nil0 hn
  have HA := Lib.hid ha
  have HN := Lib.hid hn
  clear ha hn
  cases ao with
  | none =>
    obtain ⟨h1, h2⟩ := h0 rfl
    obtain rfl : xs = [] := List.length_eq_zero_iff.1 h1
    subst h2
    have hq := eql_nil w none 0 0
    go_enter Tryd.func17, Tryd.ntmps17
    go_wp2
    go_ret
    exact ⟨_, rfl, Bx.nil w⟩
  | some ad =>
    clear h0
    have hq := eql_nil w (some ad) xs.length cap
    go_enter Tryd.func17, Tryd.ntmps17
    go_wp2_with (at_builtin; refine wpList_bxr rfl (.tmp 5) (.tmp 6) rfl _ [] rfl (Bx.lit0 w) _ xs rfl (HA.out.alloc _) HN.out (by simp; omega) ?_)
    intro v5 w5 hb5 _
    have HB5 := Lib.hid hb5
    clear hb5
    go_wp2
    go_ret
    exact ⟨_, rfl, HB5.out⟩
def lenOf : Value → Nat
  | .slice _ n _ => n
  | _ => 0
theorem fzero (n i : Nat) (h : n ≤ i) (hi : i < n + 1 + zerosN n) : i % 64 ≠ 56 ∨ i = n := by unfold zerosN at hi; omega
set_option maxRecDepth 100000 in
set_option maxHeartbeats 2000000 in
theorem filled_any (w : World) (va : Value) (xs : List Int) (ha : Rd w 1 va xs.length (bytesV xs)) (hn : NilOk va) (hl : xs.length ≤ 1000000) :
    Calls Tryd.prog 41 #[va] w fun e w' => ∃ v, e = .returned v ∧ Bx w w' v (filledL xs) := by
  obtain ⟨ao, cap, rfl, hc, hlen⟩ := ha.form
  have HA := Lib.hid ha
  have HN := Lib.hid hn
  have hn0 : (0 : Int) ≤ (xs.length : Int) := by omega
  have hn1 : (xs.length : Int) ≤ 1000000 := by omega
  clear ha hn
  go_enter Tryd.func41, Tryd.ntmps41
  go_wp2_with fail
  go_at_call 17
  refine (clone_any w _ xs HA.out HN.out hl).mono ?_
  rintro e w1 ⟨v1, rfl, hb1⟩
  have HB1 := Lib.hid hb1
  clear hb1
  go_wp2_with (at_builtin; refine wpList_bxr rfl (.tmp 10) (.tmp 11) rfl _ xs rfl (HB1.out.alloc _) _ [128] rfl (Rd.lit w1 [128]) (nilOk_some _ _ _) (by simp; omega) ?_)
  intro v2 w2 hb2 _
  have HB2 := Lib.hid hb2
  clear hb2
  go_wp2_with fail
  go_loopw [0] (fun bv wr => ∃ z : Nat, z ≤ zerosN xs.length ∧ Hid (Bx w wr bv (xs ++ [128] ++ List.replicate z 0))) (fun bv _ => zerosN xs.length + xs.length + 1 - lenOf bv)
  case atStart => exact ⟨0, by omega, Lib.hid (by simpa using HB2.out)⟩
  case round =>
    obtain ⟨z, hz, HB⟩ := hrel
    clear HB1 HB2
    obtain ⟨L, hL⟩ : ∃ L, xs ++ [128] ++ List.replicate z 0 = L := ⟨_, rfl⟩
    rw [hL] at HB
    have hLl : L.length = xs.length + 1 + z := by rw [← hL]; simp; omega
    obtain ⟨m, hm⟩ : ∃ m, L.length = m := ⟨_, rfl⟩
    obtain ⟨av, cv, rfl, _⟩ := HB.out.1.form
    have hz63 : zerosN xs.length < 64 := by unfold zerosN; omega
    have hb := HB.out.1
    rw [hm] at hb hLl ⊢
    have HBM := Lib.hid hb
    clear hb
    have hmb : m ≤ 1000070 := by omega
    have HLL := Lib.hid hLl
    clear hLl
    by_cases h56 : m % 64 = 56
    · have hzz : Hid (z = zerosN xs.length) := Lib.hid <| by have hLl := HLL.out; unfold zerosN at hz ⊢; omega
      have ht1 : Int.tmod (m : Int) 64 = 56 := by rw [Int.tmod_eq_emod_of_nonneg (by omega)]; omega
      have ht2 : (m : Int) % 64 = 56 := by omega
      go_wp2_with fail
      obtain ⟨N, hN⟩ : ∃ N, 8 * xs.length = N := ⟨_, rfl⟩
      have hN1 : (xs.length : Int) * 8 = (N : Int) := by omega
      have hNb : N ≤ 8000000 := by omega
      rw [hN1]
      go_loopw [0, 4] (fun bv iv wr => ∃ k : Nat, k ≤ 8 ∧ iv = .int .i64 (56 - 8 * (k : Int)) ∧ Hid (Bx w wr bv (L ++ (eightL N).take k))) (fun _ iv _ => (intOf iv + 8).toNat)
      case atStart => exact ⟨0, by omega, rfl, Lib.hid (by rw [List.take_zero, List.append_nil]; rw [hm] at HB; exact HB.out)⟩
      case round =>
        obtain ⟨k, hk, rfl, HK⟩ := hrel
        have hkl : (L ++ (eightL N).take k).length = m + k := by rw [List.length_append, hm, List.length_take, show (eightL N).length = 8 from rfl]; omega
        obtain ⟨av2, cv2, rfl, _⟩ := HK.out.1.form
        have hK2 : Bx w wr (.slice av2 (m + k) cv2) (L ++ (eightL N).take k) := by rw [← hkl]; exact HK.out
        have HK2 := Lib.hid hK2
        have HKL := Lib.hid hkl
        rw [hkl]
        clear hK2 hkl HK
        rcases (show k = 8 ∨ k = 7 ∨ k = 6 ∨ k = 5 ∨ k = 4 ∨ k = 3 ∨ k = 2 ∨ k = 1 ∨ k = 0 by omega) with rfl | rfl | rfl | rfl | rfl | rfl | rfl | rfl | rfl
        · have HKO := HK2
          rw [show (eightL N).take 8 = eightL N from rfl] at HKO
          go_wp2
          go_ret
          refine ⟨_, rfl, ?_⟩
          have he : filledL xs = L ++ eightL N := by rw [← hL, ← hN, hzz.out]; rfl
          rw [he]
          exact HKO.out
        · go_wp2_with (at_builtin; refine wpList_push rfl (.tmp 24) (.tmp 29) 22 rfl 5 (.int .u8 0) 1 1 i_byte u_bytes rfl (by decide) (.slice av2 (m + 7) cv2) _ _ rfl HK2.out.1 1 1 rfl rfl rfl (by unfold maxLen; have := HKL.out; omega) (by have := HKL.out; omega) ?_)
          intro v3 w3 ho hch hfo
          have hb := HK2.out.pushs (ys := [(eightL N).getD 7 0]) ho hch hfo (by simp [bytesV, eightL] <;> omega) (by simp [eightL, hm])
          rw [List.append_assoc, show (eightL N).take 7 ++ [(eightL N).getD 7 0] = (eightL N).take (7 + 1) from rfl] at hb
          have HB3 := Lib.hid hb
          obtain ⟨av3, cv3, rfl, _⟩ := ho.form
          clear hb ho hch hfo
          go_wp2_with fail
          go_roundw
          case rel => exact ⟨7 + 1, by omega, by go_num, HB3⟩
          case measure => simp [intOf]
        · go_wp2_with (at_builtin; refine wpList_push rfl (.tmp 24) (.tmp 29) 22 rfl 5 (.int .u8 0) 1 1 i_byte u_bytes rfl (by decide) (.slice av2 (m + 6) cv2) _ _ rfl HK2.out.1 1 1 rfl rfl rfl (by unfold maxLen; have := HKL.out; omega) (by have := HKL.out; omega) ?_)
          intro v3 w3 ho hch hfo
          have hb := HK2.out.pushs (ys := [(eightL N).getD 6 0]) ho hch hfo (by simp [bytesV, eightL] <;> omega) (by simp [eightL, hm])
          rw [List.append_assoc, show (eightL N).take 6 ++ [(eightL N).getD 6 0] = (eightL N).take (6 + 1) from rfl] at hb
          have HB3 := Lib.hid hb
          obtain ⟨av3, cv3, rfl, _⟩ := ho.form
          clear hb ho hch hfo
          go_wp2_with fail
          go_roundw
          case rel => exact ⟨6 + 1, by omega, by go_num, HB3⟩
          case measure => simp [intOf]
        · go_wp2_with (at_builtin; refine wpList_push rfl (.tmp 24) (.tmp 29) 22 rfl 5 (.int .u8 0) 1 1 i_byte u_bytes rfl (by decide) (.slice av2 (m + 5) cv2) _ _ rfl HK2.out.1 1 1 rfl rfl rfl (by unfold maxLen; have := HKL.out; omega) (by have := HKL.out; omega) ?_)
          intro v3 w3 ho hch hfo
          have hb := HK2.out.pushs (ys := [(eightL N).getD 5 0]) ho hch hfo (by simp [bytesV, eightL] <;> omega) (by simp [eightL, hm])
          rw [List.append_assoc, show (eightL N).take 5 ++ [(eightL N).getD 5 0] = (eightL N).take (5 + 1) from rfl] at hb
          have HB3 := Lib.hid hb
          obtain ⟨av3, cv3, rfl, _⟩ := ho.form
          clear hb ho hch hfo
          go_wp2_with fail
          go_roundw
          case rel => exact ⟨5 + 1, by omega, by go_num, HB3⟩
          case measure => simp [intOf]
        · go_wp2_with (at_builtin; refine wpList_push rfl (.tmp 24) (.tmp 29) 22 rfl 5 (.int .u8 0) 1 1 i_byte u_bytes rfl (by decide) (.slice av2 (m + 4) cv2) _ _ rfl HK2.out.1 1 1 rfl rfl rfl (by unfold maxLen; have := HKL.out; omega) (by have := HKL.out; omega) ?_)
          intro v3 w3 ho hch hfo
          have hb := HK2.out.pushs (ys := [(eightL N).getD 4 0]) ho hch hfo (by simp [bytesV, eightL] <;> omega) (by simp [eightL, hm])
          rw [List.append_assoc, show (eightL N).take 4 ++ [(eightL N).getD 4 0] = (eightL N).take (4 + 1) from rfl] at hb
          have HB3 := Lib.hid hb
          obtain ⟨av3, cv3, rfl, _⟩ := ho.form
          clear hb ho hch hfo
          go_wp2_with fail
          go_roundw
          case rel => exact ⟨4 + 1, by omega, by go_num, HB3⟩
          case measure => simp [intOf]
        · go_wp2_with (at_builtin; refine wpList_push rfl (.tmp 24) (.tmp 29) 22 rfl 5 (.int .u8 0) 1 1 i_byte u_bytes rfl (by decide) (.slice av2 (m + 3) cv2) _ _ rfl HK2.out.1 1 1 rfl rfl rfl (by unfold maxLen; have := HKL.out; omega) (by have := HKL.out; omega) ?_)
          intro v3 w3 ho hch hfo
          have hb := HK2.out.pushs (ys := [(eightL N).getD 3 0]) ho hch hfo (by simp [bytesV, eightL] <;> omega) (by simp [eightL, hm])
          rw [List.append_assoc, show (eightL N).take 3 ++ [(eightL N).getD 3 0] = (eightL N).take (3 + 1) from rfl] at hb
          have HB3 := Lib.hid hb
          obtain ⟨av3, cv3, rfl, _⟩ := ho.form
          clear hb ho hch hfo
          go_wp2_with fail
          go_roundw
          case rel => exact ⟨3 + 1, by omega, by go_num, HB3⟩
          case measure => simp [intOf]
        · go_wp2_with (at_builtin; refine wpList_push rfl (.tmp 24) (.tmp 29) 22 rfl 5 (.int .u8 0) 1 1 i_byte u_bytes rfl (by decide) (.slice av2 (m + 2) cv2) _ _ rfl HK2.out.1 1 1 rfl rfl rfl (by unfold maxLen; have := HKL.out; omega) (by have := HKL.out; omega) ?_)
          intro v3 w3 ho hch hfo
          have hb := HK2.out.pushs (ys := [(eightL N).getD 2 0]) ho hch hfo (by simp [bytesV, eightL] <;> omega) (by simp [eightL, hm])
          rw [List.append_assoc, show (eightL N).take 2 ++ [(eightL N).getD 2 0] = (eightL N).take (2 + 1) from rfl] at hb
          have HB3 := Lib.hid hb
          obtain ⟨av3, cv3, rfl, _⟩ := ho.form
          clear hb ho hch hfo
          go_wp2_with fail
          go_roundw
          case rel => exact ⟨2 + 1, by omega, by go_num, HB3⟩
          case measure => simp [intOf]
        · go_wp2_with (at_builtin; refine wpList_push rfl (.tmp 24) (.tmp 29) 22 rfl 5 (.int .u8 0) 1 1 i_byte u_bytes rfl (by decide) (.slice av2 (m + 1) cv2) _ _ rfl HK2.out.1 1 1 rfl rfl rfl (by unfold maxLen; have := HKL.out; omega) (by have := HKL.out; omega) ?_)
          intro v3 w3 ho hch hfo
          have hb := HK2.out.pushs (ys := [(eightL N).getD 1 0]) ho hch hfo (by simp [bytesV, eightL] <;> omega) (by simp [eightL, hm])
          rw [List.append_assoc, show (eightL N).take 1 ++ [(eightL N).getD 1 0] = (eightL N).take (1 + 1) from rfl] at hb
          have HB3 := Lib.hid hb
          obtain ⟨av3, cv3, rfl, _⟩ := ho.form
          clear hb ho hch hfo
          go_wp2_with fail
          go_roundw
          case rel => exact ⟨1 + 1, by omega, by go_num, HB3⟩
          case measure => simp [intOf]
        · have HK3 : Hid (Bx w wr (.slice av2 m cv2) L) := Lib.hid (by simpa using HK2.out)
          go_wp2_with (at_builtin; refine wpList_push rfl (.tmp 24) (.tmp 29) 22 rfl 5 (.int .u8 0) 1 1 i_byte u_bytes rfl (by decide) (.slice av2 m cv2) _ _ rfl HK3.out.1 1 1 rfl rfl rfl (by unfold maxLen; omega) (by omega) ?_)
          intro v3 w3 ho hch hfo
          have hb := HK3.out.pushs (ys := [(eightL N).getD 0 0]) ho hch hfo (by simp [bytesV, eightL] <;> omega) (by simp [hm])
          rw [show L ++ [(eightL N).getD 0 0] = L ++ (eightL N).take (0 + 1) from rfl] at hb
          have HB3 := Lib.hid hb
          obtain ⟨av3, cv3, rfl, _⟩ := ho.form
          clear hb ho hch hfo
          go_wp2_with fail
          go_roundw
          case rel => exact ⟨0 + 1, by omega, by go_num, HB3⟩
          case measure => simp [intOf]
    · have ht1 : Int.tmod (m : Int) 64 = (m % 64 : Nat) := by rw [Int.tmod_eq_emod_of_nonneg (by omega)]; omega
      have ht2 : (m : Int) % 64 = (m % 64 : Nat) := by omega
      obtain ⟨q, hq⟩ : ∃ q, m % 64 = q := ⟨_, rfl⟩
      rw [hq] at ht1 ht2 h56
      have hq1 : (q : Int) ≠ 56 := by omega
      have hzl : z < zerosN xs.length := by
        rcases Nat.lt_or_ge z (zerosN xs.length) with h | h
        · exact h
        · exfalso; have hLl := HLL.out; unfold zerosN at *; omega
      go_wp2_with (at_builtin; refine wpList_bxr rfl (.tmp 17) (.tmp 18) rfl _ L (by rw [hm]; rfl) (HB.out.alloc _) _ [0] rfl (Rd.lit wr [0]) (nilOk_some _ _ _) (by simp; omega) ?_)
      intro v3 w3 hb3 _
      have HB3 := Lib.hid hb3
      clear hb3
      obtain ⟨av3, cv3, rfl, _⟩ := HB3.out.1.form
      go_wp2_with fail
      go_roundw
      case rel => exact ⟨z + 1, by omega, Lib.hid (by rw [List.replicate_succ', ← List.append_assoc, hL]; exact HB3.out)⟩
      case measure => have hLl := HLL.out; simp [lenOf, hm]; omega
end Go.Proofs.YtcgdmidjejmjhaaDoor
