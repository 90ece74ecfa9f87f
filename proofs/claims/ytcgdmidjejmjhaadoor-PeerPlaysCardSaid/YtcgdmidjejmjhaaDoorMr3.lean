
/-
  The document's sum: the constants, eight bytes.
-/
import Derived.Test.YtcgdmidjejmjhaaDoorMr2
namespace Go.Proofs.YtcgdmidjejmjhaaDoor
open Go.RowKit
set_option linter.unusedVariables false
set_option linter.unusedSimpArgs false

set_option maxRecDepth 100000 in
theorem consts_any (w : World) : Calls Tryd.prog 45 #[] w fun e w' => ∃ v, e = .returned v ∧ Own w' 72 1 v 64 (wordsV roundsL) ∧ Chg w w' nob ∧ ∀ k, blkOf v k → w.heap.size ≤ k := by
  have HO : Hid (Own (w.alloc (.cells (wordsV roundsL).toArray 72)) 72 1 (.slice (some ⟨w.heap.size, 0, none⟩) 64 64) 64 (wordsV roundsL)) := Lib.hid (Own.lit w 72 (wordsV roundsL).toArray (by show 64 ≤ 1000; decide))
  go_enter Tryd.func45, Tryd.ntmps45
  go_wp2
  go_ret
  exact ⟨_, rfl, HO.out, (Chg.refl w nob).alloc _, fun k hk => by cases hk; exact Nat.le_refl _⟩
theorem eight_four (n : Nat) (h : n < 4294967296) : eightL n = fourL 0 ++ fourL (n : Int) := by
  have e1 : n / 2 ^ 56 % 256 = 0 := by omega
  have e2 : n / 2 ^ 48 % 256 = 0 := by omega
  have e3 : n / 2 ^ 40 % 256 = 0 := by omega
  have e4 : n / 2 ^ 32 % 256 = 0 := by omega
  simp only [eightL, fourL, e1, e2, e3, e4, IntKind.wrap, IntKind.bits, IntKind.signed]
  simp
set_option maxRecDepth 100000 in
set_option maxHeartbeats 1500000 in
theorem eight_any (w : World) (n : Nat) (h : n < 4294967296) : Calls Tryd.prog 28 #[.int .u64 n] w fun e w' => ∃ v, e = .returned v ∧ Bx w w' v (eightL n) := by
  have h0 : (n : Int) / 4294967296 = 0 := by omega
  have hw : IntKind.u32.wrap (n : Int) = (n : Int) := wrp_u32 _ (by omega) (by omega)
  have hw0 : IntKind.u32.wrap 0 = 0 := by decide
  have HE := Lib.hid (eight_four n h)
  go_enter Tryd.func28, Tryd.ntmps28
  go_wp2_with fail
  go_at_call 34
  refine (four_any w 0).mono ?_
  rintro e w1 ⟨v1, rfl, hb1⟩
  have HB1 := Lib.hid hb1
  clear hb1
  go_wp2_with fail
  go_at_call 34
  refine (four_any w1 (n : Int)).mono ?_
  rintro e w2 ⟨v2, rfl, hb2⟩
  have HB2 : Hid (Bx w w2 v1 (fourL 0)) := Lib.hid ⟨HB1.out.1.kept hb2.2.1 (fun _ _ => id), HB1.out.2.1.trans hb2.2.1 (fun _ _ h => h), HB1.out.2.2⟩
  have HO2 := Lib.hid hb2.1.rd
  have HN2 := Lib.hid hb2.1.nilOk
  clear hb2
  go_wp2_with (at_builtin; refine wpList_bxr rfl (.tmp 6) (.tmp 9) rfl v1 (fourL 0) rfl HB2.out v2 (fourL (n : Int)) rfl HO2.out HN2.out (by show 4 + 4 ≤ _; omega) ?_)
  intro v3 w3 hb3 _
  have HB3 := Lib.hid hb3
  clear hb3
  go_wp2
  go_ret
  exact ⟨_, rfl, by rw [HE.out]; exact HB3.out⟩
end Go.Proofs.YtcgdmidjejmjhaaDoor
