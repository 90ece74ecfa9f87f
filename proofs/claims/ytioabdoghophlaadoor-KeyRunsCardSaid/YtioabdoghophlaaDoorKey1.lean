
/-
  Chapter 13: first; FewScreen.
-/
import Derived.Test.YtioabdoghophlaaDoorEnc
import Derived.Test.YtioabdoghophlaaDoorBlank
namespace Go.Proofs.YtioabdoghophlaaDoor
open Go.RowKit
set_option linter.unusedVariables false
set_option linter.unusedSimpArgs false

theorem varL_small {n : Nat} (h : n < 128) : varL n = [(n : Int)] := varL_lt h
theorem title_empty : titleF ByteArray.empty = true := by decide
theorem may_first : mayS 1 2 (List.replicate 2 .blank) 0 0 ByteArray.empty = true := by
  unfold mayS
  rw [title_empty]
  decide
theorem numsS_empty : numsS ByteArray.empty = [] := rfl
theorem key_first : keyL 1 2 (List.replicate 2 .blank) 0 0 false ByteArray.empty = [1, 2, 0, 0, 0, 0, 2, 32, 0, 0, 0, 0] := by
  have hr : runsL (List.replicate 2 Ce.blank) = varsL (ceN 2 .blank) := by
    show runsL [Ce.blank, Ce.blank] = _
    rw [runsL]
    have e : runLen Ce.blank [Ce.blank] = 1 := by decide
    rw [e]
    simp [runsL]
  rw [keyL, hr, numsS_empty]
  have e1 : headN 1 2 0 0 false ByteArray.empty = [1, 2, 0, 0, 0, 0] := by decide
  have e2 : ceN 2 Ce.blank = [2, 32, 0, 0, 0, 0] := by decide
  rw [e1, e2]
  simp [varsL, varL_small]
set_option maxRecDepth 100000 in
set_option maxHeartbeats 4000000 in
theorem kfirst_any (w : World) (ht : Tab w) : Calls Tryd.prog 11 #[] w fun e w' => e = .returned (.bool true) ∧ Chg w w' nob := by
  have HT := Lib.hid ht
  clear ht
  go_enter Tryd.func11, Tryd.ntmps11
  go_wp2_with fail
  go_at_call 46
  refine (blank_ok w 1 2 (by decide)).mono ?_
  rintro e w1 ⟨v, rfl, ho, hc, hf⟩
  have HO := Lib.hid ho
  have HC1 := Lib.hid hc
  clear ho hc hf
  obtain ⟨av, cv, rfl, _⟩ := HO.out.form
  go_wp2_with fail
  go_at_call 24
  have hc2 := (Chg.refl w1 nob).alloc (.cells #[.int .i64 1, .int .i64 2, .slice av (1 * 2) cv, .int .i64 0, .int .i64 0, .bool false, .string ByteArray.empty] 39)
  refine (kenc_any _ 1 2 0 0 false ByteArray.empty _ (List.replicate 2 .blank) ((HO.out.rd).kept hc2 (fun _ _ => id)) (by decide) (by decide) (HT.out.kept (HC1.out.trans hc2 (fun _ _ h => h)))).mono ?_
  rw [may_first, if_pos rfl, key_first]
  rintro e w2 ⟨v2, rfl, hb2⟩
  have HC2 : Hid (Chg w w2 nob) := Lib.hid ((HC1.out.trans hc2 (fun _ _ h => h)).trans hb2.2.1 (fun _ _ h => h))
  have HB := Lib.hid hb2.1
  clear hb2 hc2
  obtain ⟨a2, c2, rfl, _⟩ := HB.out.form
  go_wp2_with fail
  go_at_call 27
  refine (bytes_eq _ _ _ [1, 2, 0, 0, 0, 0, 2, 32, 0, 0, 0, 0] [1, 2, 0, 0, 0, 0, 2, 32, 0, 0, 0, 0] (HB.out.rd.kept ((Chg.refl w2 nob).alloc _) (fun _ _ => id)) (Rd.made w2 5 #[.int .u8 1, .int .u8 2, .int .u8 0, .int .u8 0, .int .u8 0, .int .u8 0, .int .u8 2, .int .u8 32, .int .u8 0, .int .u8 0, .int .u8 0, .int .u8 0] (size := 1) (n := 12) (c := 12) rfl (Nat.le_refl _)) (by decide) (by decide)).mono ?_
  rintro e w3 ⟨rfl, rfl⟩
  go_wp2
  go_ret
  exact ⟨rfl, HC2.out.alloc _⟩
set_option maxRecDepth 100000 in
set_option maxHeartbeats 4000000 in
theorem few_any (w : World) (r c y x : Int) (h : Bool) (t : ByteArray) (va : Value) (n : Nat) (hn : ∃ a cap, va = .slice a n cap) :
    Calls Tryd.prog 23 #[scV r c va y x h t] w fun e w' => e = .returned (.bool (decide (n ≤ 3000) && decide (t.size ≤ 3000))) ∧ Chg w w' nob := by
  obtain ⟨a, cap, rfl⟩ := hn
  obtain ⟨b1, h1⟩ : ∃ b, decide (n ≤ 3000) = b := ⟨_, rfl⟩
  obtain ⟨b2, h2⟩ : ∃ b, decide (t.size ≤ 3000) = b := ⟨_, rfl⟩
  rw [h1, h2]
  go_enter Tryd.func23, Tryd.ntmps23
  rcases (show (n ≤ 3000 ∧ t.size ≤ 3000) ∨ (n ≤ 3000 ∧ 3000 < t.size) ∨ 3000 < n by omega) with ⟨h3, h4⟩ | ⟨h3, h4⟩ | h3
  · obtain rfl : b1 = true := by rw [← h1]; simp [h3]
    obtain rfl : b2 = true := by rw [← h2]; simp [h4]
    have i1 : (n : Int) ≤ 3000 := by omega
    have i2 : (t.size : Int) ≤ 3000 := by omega
    clear h1 h2
    go_wp2
    go_ret
    exact ⟨rfl, (Chg.refl w nob).alloc _⟩
  · obtain rfl : b1 = true := by rw [← h1]; simp [h3]
    obtain rfl : b2 = false := by rw [← h2]; simp; omega
    have i1 : (n : Int) ≤ 3000 := by omega
    have i2 : ¬ (t.size : Int) ≤ 3000 := by omega
    clear h1 h2
    go_wp2
    go_ret
    exact ⟨rfl, (Chg.refl w nob).alloc _⟩
  · obtain rfl : b1 = false := by rw [← h1]; simp; omega
    have i1 : ¬ (n : Int) ≤ 3000 := by omega
    clear h1 h2
    go_wp2
    go_ret
    exact ⟨rfl, (Chg.refl w nob).alloc _⟩
end Go.Proofs.YtioabdoghophlaaDoor
