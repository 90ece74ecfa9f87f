
/-
  Are bytes alike (bytes.Equal, tikref.Bytes)?
-/
import Derived.Test.YtmekakecdgblaaaA
import Derived.Test.YtmekakecdgblaaaBytes
namespace Go.Proofs.Ytmekakecdgblaaa
open Go.RowKit
set_option linter.unusedVariables false
set_option linter.unusedSimpArgs false

set_option maxRecDepth 100000 in
theorem bequal_any (w : World) (va vb : Value) (xs ys : List Int) (ha : Rd w 1 va xs.length (bytesV xs)) (hb : Rd w 1 vb ys.length (bytesV ys)) (hx : ∀ x ∈ xs, 0 ≤ x ∧ x ≤ 255) (hy : ∀ x ∈ ys, 0 ≤ x ∧ x ≤ 255) :
    Calls Try.prog 25 #[va, vb] w fun e w' => e = .returned (.bool (decide (xs = ys))) ∧ w' = w := by
  have h1 := rd_string w va xs ha
  have h2 := rd_string w vb ys hb
  have hd : Hid (((strOfNums xs).toList == (strOfNums ys).toList) = decide (xs = ys)) := Lib.hid (by
    rw [Bool.eq_iff_iff]
    simp only [beq_iff_eq, decide_eq_true_eq]
    refine ⟨fun h => strOfNums_inj hx hy (toList_inj h), fun h => by rw [h]⟩)
  clear ha hb hx hy
  go_enter Try.func25, Try.ntmps25
  go_wp2
  go_ret
  refine ⟨?_, rfl⟩
  show Ending.returned (Value.bool _) = _
  rw [hd.out]
section
variable {w : World} {va vb : Value} {xs ys : List Int}
theorem bequal_by (ha : By w va xs) (hb : By w vb ys) : Calls Try.prog 25 #[va, vb] w fun e w' => e = .returned (.bool (decide (xs = ys))) ∧ w = w' := (bequal_any w va vb xs ys ha.rd hb.rd ha.byte hb.byte).mono fun e w' ⟨h1, h2⟩ => ⟨h1, h2.symm⟩
theorem bytes_by (ha : By w va xs) (hb : By w vb ys) : Calls Try.prog 6 #[va, vb] w fun e w' => e = .returned (.bool (decide (xs = ys))) ∧ w = w' := (bytes_eq w va vb xs ys ha.rd hb.rd ha.byte hb.byte).mono fun e w' ⟨h1, h2⟩ => ⟨h1, h2.symm⟩
end
end Go.Proofs.Ytmekakecdgblaaa
