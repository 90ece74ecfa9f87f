
/-
  The window of numbers.
-/
import Derived.Test.YtcgdmidjejmjhaaDoorPk5
namespace Go.Proofs.YtcgdmidjejmjhaaDoor
open Go.RowKit
set_option linter.unusedVariables false
set_option linter.unusedSimpArgs false

abbrev Win (w : World) (g : Nat) (l : Int) : Prop := Blk w g 63 #[.int .u64 l]
abbrev ptr (g : Nat) : Value := .pointer (some ⟨g, 0, none⟩)
set_option maxRecDepth 100000 in
theorem newwin_any (w : World) (n : Int) : Calls Tryd.prog 18 #[.int .u64 n] w fun e w' => ∃ g, e = .returned (ptr g) ∧ Win w' g n ∧ Chg w w' nob ∧ w.heap.size ≤ g := by
  go_enter Tryd.func18, Tryd.ntmps18
  go_wp2
  go_ret
  exact ⟨_, rfl, Blk.new w _ _, (Chg.refl w nob).alloc _, Nat.le_refl _⟩
set_option maxRecDepth 100000 in
theorem fresh_any (w : World) (g : Nat) (l n : Int) (h : Win w g l) : Calls Tryd.prog 31 #[ptr g, .int .u64 n] w fun e w' => e = .returned (.bool (decide (l < n))) ∧ w = w' := by
  have c0 := h.cell 0
  simp only [List.getElem?_toArray, List.getElem?_cons_zero] at c0
  go_enter Tryd.func31, Tryd.ntmps31
  go_wp2
  go_ret
  exact ⟨rfl, rfl⟩
set_option maxRecDepth 100000 in
theorem last_any (w : World) (g : Nat) (l : Int) (h : Win w g l) : Calls Tryd.prog 25 #[ptr g] w fun e w' => e = .returned (.int .u64 l) ∧ w = w' := by
  have c0 := h.cell 0
  simp only [List.getElem?_toArray, List.getElem?_cons_zero] at c0
  go_enter Tryd.func25, Tryd.ntmps25
  go_wp2
  go_ret
  exact ⟨rfl, rfl⟩
def takeE (l n : Int) : Int := if l < n then 0 else 14
def takeL (l n : Int) : Int := if l < n then n else l
set_option maxRecDepth 100000 in
theorem wtake_any (w : World) (g : Nat) (l n : Int) (h : Win w g l) : Calls Tryd.prog 23 #[ptr g, .int .u64 n] w fun e w' => e = .returned (.int .i64 (takeE l n)) ∧ Win w' g (takeL l n) ∧ Chg w w' (fun k => k = g) := by
  have HW := Lib.hid h
  have f0 := h.free 0
  have c0 := h.cell 0
  simp only [List.getElem?_toArray, List.getElem?_cons_zero] at c0
  clear h
  by_cases hl : l < n
  · have HE : Hid (takeE l n = 0 ∧ takeL l n = n) := Lib.hid ⟨if_pos hl, if_pos hl⟩
    rw [HE.out.1, HE.out.2]
    go_enter Tryd.func23, Tryd.ntmps23
    go_wp2_with fail
    go_at_call 31
    refine (fresh_any w g l n HW.out).mono ?_
    rw [decide_eq_true hl]
    rintro e x ⟨rfl, rfl⟩
    go_wp2
    go_ret
    exact ⟨rfl, HW.out.set 0 _, (Chg.refl w (fun k => k = g)).setCell (.inl rfl) _⟩
  · have HE : Hid (takeE l n = 14 ∧ takeL l n = l) := Lib.hid ⟨if_neg hl, if_neg hl⟩
    rw [HE.out.1, HE.out.2]
    have HD := Lib.hid (decide_eq_false hl)
    go_enter Tryd.func23, Tryd.ntmps23
    go_wp2_with fail
    go_at_call 31
    refine (fresh_any w g l n HW.out).mono ?_
    rw [HD.out]
    rintro e x ⟨rfl, rfl⟩
    go_wp2
    go_ret
    exact ⟨rfl, HW.out, Chg.refl _ _⟩
/-- What was sealed is opened. -/
theorem numB_eight (n : Nat) (h : n < 18446744073709551616) : numB (eightL n) = n := by
  simp only [numB, eightL, List.foldl_cons, List.foldl_nil]
  omega
theorem open_seal (k : List Int) (p : Pk) (hm : p.May) : openL k (sealL k p) = (p, 0) := by
  obtain ⟨d, v, n, b⟩ := p
  obtain ⟨m1, m2, m3, m4, m5, m6⟩ := hm
  simp only at m1 m2 m3 m4 m5 m6
  have hwd : IntKind.u8.wrap d = d := wraps_u8 d (by omega) (by omega)
  have hwv : IntKind.u8.wrap v = v := wraps_u8 v (by omega) (by omega)
  obtain ⟨N, rfl⟩ : ∃ N : Nat, n = (N : Int) := ⟨n.toNat, by omega⟩
  have htx : textL ⟨d, v, (N : Int), b⟩ = d :: v :: (eightL N ++ b) := by simp [textL, headL, hwd, hwv]
  have hl := sealL_len k ⟨d, v, (N : Int), b⟩
  have htl := textL_len ⟨d, v, (N : Int), b⟩
  simp only at hl htl
  have hE : (sealL k ⟨d, v, (N : Int), b⟩).length - 16 = (textL ⟨d, v, (N : Int), b⟩).length := by omega
  have ht : (sealL k ⟨d, v, (N : Int), b⟩).take (textL ⟨d, v, (N : Int), b⟩).length = textL ⟨d, v, (N : Int), b⟩ := by rw [sealL, List.take_left]
  have hd : (sealL k ⟨d, v, (N : Int), b⟩).drop (textL ⟨d, v, (N : Int), b⟩).length = tagL k (textL ⟨d, v, (N : Int), b⟩) := by rw [sealL, List.drop_left]
  have hp : openP k (sealL k ⟨d, v, (N : Int), b⟩) = ⟨d, v, (N : Int), b⟩ := by
    unfold openP
    rw [hE, ht, htx]
    have e1 : (sealL k ⟨d, v, (N : Int), b⟩) = d :: v :: (eightL N ++ (b ++ tagL k (d :: v :: (eightL N ++ b)))) := by rw [sealL, htx]; simp
    rw [e1]
    have e2 : ((d :: v :: (eightL N ++ (b ++ tagL k (d :: v :: (eightL N ++ b))))).take 10).drop 2 = eightL N := by rfl
    rw [e2, numB_eight N (by omega)]
    rfl
  unfold openL
  rw [if_neg (by omega), hE, ht, hd, if_pos rfl, hp, if_pos ⟨m1, m2, m3, m4, m5, m6⟩]
end Go.Proofs.YtcgdmidjejmjhaaDoor
