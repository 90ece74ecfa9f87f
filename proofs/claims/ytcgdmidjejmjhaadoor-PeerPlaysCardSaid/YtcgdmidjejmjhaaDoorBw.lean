
/-
  The sums and tags over bytes to be read.
-/
import Derived.Test.YtcgdmidjejmjhaaDoorMr5
import Derived.Test.YtcgdmidjejmjhaaDoorFirst4
import Derived.Test.YtcgdmidjejmjhaaDoorPo
import Derived.Test.YtcgdmidjejmjhaaDoorCl
namespace Go.Proofs.YtcgdmidjejmjhaaDoor
open Go.RowKit
set_option linter.unusedVariables false
set_option linter.unusedSimpArgs false

theorem sum3_byte (l : List Int) : ∀ x ∈ sumL l, 0 ≤ x ∧ x ≤ 255 := sumL_byte l
theorem hm3_byte (k l : List Int) : ∀ x ∈ hmacL k l, 0 ≤ x ∧ x ≤ 255 := sumL_byte _
theorem tg3_byte (k l : List Int) : ∀ x ∈ tagL k l, 0 ≤ x ∧ x ≤ 255 := fun x hx => hm3_byte k l x (List.mem_of_mem_take hx)
theorem tagL_len (k l : List Int) : (tagL k l).length = 16 := by simp [tagL, hmacL, sumL_len]
section
variable {w : World} {va vb vp : Value} {xs ys : List Int} {P : List (List Int)}
theorem equal_by (ha : By w va xs) (hb : By w vb ys) : Calls Tryd.prog 30 #[va, vb] w fun e w' => e = .returned (.bool (decide (xs = ys))) ∧ w = w' := (equal_any w va vb xs ys ha.rd hb.rd ha.byte hb.byte).mono fun e w' ⟨h1, h2⟩ => ⟨h1, h2.symm⟩
theorem bequal_by (ha : By w va xs) (hb : By w vb ys) : Calls Tryd.prog 36 #[va, vb] w fun e w' => e = .returned (.bool (decide (xs = ys))) ∧ w = w' := (bequal_any w va vb xs ys ha.rd hb.rd ha.byte hb.byte).mono fun e w' ⟨h1, h2⟩ => ⟨h1, h2.symm⟩
theorem bytes_by (ha : By w va xs) (hb : By w vb ys) : Calls Tryd.prog 12 #[va, vb] w fun e w' => e = .returned (.bool (decide (xs = ys))) ∧ w = w' := (bytes_eq w va vb xs ys ha.rd hb.rd ha.byte hb.byte).mono fun e w' ⟨h1, h2⟩ => ⟨h1, h2.symm⟩
theorem clone_by (ha : By w va xs) (hl : xs.length ≤ 1000000) : Calls Tryd.prog 17 #[va] w fun e w' => ∃ v, e = .returned v ∧ Bx w w' v xs := clone_any w va xs ha.rd ha.nil hl
theorem copy_by (ha : By w va xs) (hl : xs.length ≤ 1000000) : Calls Tryd.prog 19 #[va] w fun e w' => ∃ v, e = .returned v ∧ Bx w w' v xs := (copy_any w va xs ha.rd ha.nil hl).mono fun e w' ⟨v, h1, h2, h3, h4⟩ => ⟨v, h1, h2, h3, h4⟩
theorem tag_by (ht : Tab w) (ha : By w va xs) (hl : xs.length ≤ 1000000) (hp : Ps w vp P) (h1 : 1 ≤ P.length) (h2 : P.length ≤ 1000000) (hpl : P.flatten.length ≤ 900000) :
    Calls Tryd.prog 26 #[va, vp] w fun e w' => ∃ v, e = .returned v ∧ By w' v (tagL xs P.flatten) ∧ Chg w w' nob := by
  refine (tag_any w va vp xs P ht ha.rd ha.nil ha.byte hl hp h1 h2 hpl).mono ?_
  rintro e w' ⟨v, rfl, hb⟩
  exact ⟨v, rfl, By.ofBx hb (tg3_byte _ _), hb.2.1⟩
/-- The key over one part that has just been laid. -/
theorem tag_one (ht : Tab w) (ha : By w va xs) (hl : xs.length ≤ 1000000) (hb : By w vb ys) (hm : ys.length ≤ 900000) :
    Calls Tryd.prog 26 #[va, .slice (some ⟨w.heap.size, 0, none⟩) 1 1] (w.alloc (.cells #[vb] 22)) fun e w' => ∃ v, e = .returned v ∧ By w' v (tagL xs ys) ∧ Chg w w' nob := by
  have h := tag_by (w := w.alloc (.cells #[vb] 22)) (ht.kept ((Chg.refl w nob).alloc _) id) (ha.alloc _) hl (Ps.one hb.rd hb.nil hb.byte) (by simp) (by simp) (by simpa using hm)
  rw [show [ys].flatten = ys by simp] at h
  refine h.mono ?_
  rintro e w' ⟨v, rfl, hb, hc⟩
  exact ⟨v, rfl, hb, ((Chg.refl w nob).alloc _).trans hc (fun _ _ h => h)⟩
theorem rtag_by (ha : By w va xs) (hb : By w vb ys) (hl : xs.length ≤ 1000000) (hm : ys.length ≤ 900000) : Calls Tryd.prog 29 #[va, vb] w fun e w' => ∃ v, e = .returned v ∧ By w' v (tagL xs ys) ∧ Chg w w' nob := by
  refine (rtag_any w va vb xs ys ha.rd ha.nil ha.byte hl hb.rd hb.nil hb.byte hm).mono ?_
  rintro e w' ⟨v, rfl, hb⟩
  exact ⟨v, rfl, By.ofBx hb (tg3_byte _ _), hb.2.1⟩
end
section
variable {o : Oper} {a : Act} {K : Act → World → Prop} {Q : Exit → Act → World → Prop} {w0 w : World} {v u : Value} {L M : List Int}
/-- Bytes put behind bytes of one's own. -/
theorem wpList_by {ops : Array Oper} {rest : List Oper} (hgd : o.guard = none) (s x : Operand) (ho : o.op = .call { callee := .builtin .append, args := #[s, x], argTypes := #[22, 22] })
    (hB : Bx w0 w v L) (hM : By w u M) (hl : L.length + M.length ≤ 1000000) (hs : a.eval s = v) (hx : a.eval x = u)
    (h : ∀ v' w', Bx w0 w' v' (L ++ M) → Chg w w' (blkOf v) → wpList Tryd.prog ops Q rest (a.put o.dst v') w') : wpList Tryd.prog ops Q (o :: rest) a w :=
  wpList_bxr hgd s x ho v L hs hB u M hx hM.rd hM.nil (by omega) h
theorem step_by {ops : Array Oper} {E : Prop} (hgd : o.guard = none) (s x : Operand) (ho : o.op = .call { callee := .builtin .append, args := #[s, x], argTypes := #[22, 22] })
    (hB : Bx w0 w v L) (hM : By w u M) (hl : L.length + M.length ≤ 1000000) (hs : a.eval s = v) (hx : a.eval x = u)
    (h : ∀ v' w', Bx w0 w' v' (L ++ M) → Chg w w' (blkOf v) → K (a.put o.dst v') w') : if Region.wanted o (yielded ops a.tmps) = true then Oper.wp Tryd.prog o a w K Q else E := by
  rw [if_pos (show Region.wanted o (yielded ops a.tmps) = true by simp [Region.wanted, hgd])]
  exact wp_bxr s x ho v L hs hB u M hx hM.rd hM.nil (by omega) h
end
end Go.Proofs.YtcgdmidjejmjhaaDoor
