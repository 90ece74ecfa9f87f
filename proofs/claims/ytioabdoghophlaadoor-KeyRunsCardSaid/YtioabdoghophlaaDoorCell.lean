
/-
  Cells: spans, widths, what may be.
-/
import Derived.Test.YtioabdoghophlaaDoorK
import Derived.Test.YtioabdoghophlaaDoorC
import Derived.Deep.DeepCutAuto
namespace Go.Proofs.YtioabdoghophlaaDoor
open Go.RowKit
set_option linter.unusedVariables false
set_option linter.unusedSimpArgs false

def spansV (l : List (Int × Int)) : List Value := l.flatMap fun p => [.int .i32 p.1, .int .i32 p.2]
theorem spansV_len (l : List (Int × Int)) : (spansV l).length = l.length * 2 := by
  induction l with
  | nil => rfl
  | cons a t ih => simp only [spansV, List.flatMap_cons, List.length_append, List.length_cons, List.length_nil] at *; omega
theorem spansV_at : ∀ (l : List (Int × Int)) (k : Nat) (p : Int × Int), l[k]? = some p → (spansV l)[k * 2]? = some (.int .i32 p.1) ∧ (spansV l)[k * 2 + 1]? = some (.int .i32 p.2)
  | a :: t, 0, p, h => by cases h; exact ⟨rfl, rfl⟩
  | a :: t, k + 1, p, h => by
    have := spansV_at t k p (by simpa using h)
    simpa [spansV, Nat.add_mul] using this
def amongF (r : Int) (l : List (Int × Int)) : Bool := l.any fun p => decide (p.1 ≤ r ∧ r ≤ p.2)
set_option maxRecDepth 100000 in
set_option maxHeartbeats 4000000 in
theorem among_any (w : World) (r : Int) (l : List (Int × Int)) (va : Value) (ha : Rd w 2 va l.length (spansV l)) (hl : l.length ≤ 1000) :
    Calls Tryd.prog 125 #[.int .i32 r, va] w fun e w' => e = .returned (.bool (amongF r l)) ∧ Chg w w' nob := by
  obtain ⟨a1, c1, rfl, hn1, _⟩ := ha.form
  have HC := Lib.hid ha
  clear ha
  go_enter Tryd.func125, Tryd.ntmps125
  go_wp2
  go_loopw [9] (fun iv wr => ∃ k : Nat, k ≤ l.length ∧ iv = .int .i64 k ∧ Chg w wr nob ∧ Hid (amongF r l = amongF r (l.drop k))) (fun iv _ => l.length - (intOf iv).toNat)
  case atStart => exact ⟨0, Nat.zero_le _, rfl, Chg.refl _ _, Lib.hid rfl⟩
  case round =>
    obtain ⟨k, hk, rfl, hch, HA⟩ := hrel
    have HCH := Lib.hid hch
    clear hch
    by_cases hkl : k < l.length
    · have hkn : (k : Int) < (l.length : Int) := by omega
      obtain ⟨⟨f, t⟩, hp⟩ : ∃ p, l[k]? = some p := ⟨l[k], List.getElem?_eq_getElem hkl⟩
      have hrd := HC.out.kept HCH.out (fun _ _ => id)
      obtain ⟨hv0, hv1⟩ := spansV_at l k (f, t) hp
      obtain ⟨g, o, rfl, hc0⟩ := hrd.cell hv0
      obtain ⟨_, _, hge, hc1⟩ := hrd.cell hv1
      cases hge
      have hc1' : wr.cell? ⟨g, o + k * 2 + 1, none⟩ = some (.int .i32 t) := by rw [← hc1]; rfl
      simp only at hc0
      have hd : amongF r (l.drop k) = (decide (f ≤ r ∧ r ≤ t) || amongF r (l.drop (k + 1))) := by
        rw [List.drop_eq_getElem_cons hkl]
        simp only [amongF, List.any_cons]
        rw [show l[k] = (f, t) from Option.some.inj ((List.getElem?_eq_getElem hkl).symm.trans hp)]
      rw [hd] at HA
      clear hd hv0 hv1 hrd hp hc1
      rcases (show r < f ∨ (f ≤ r ∧ t < r) ∨ (f ≤ r ∧ r ≤ t) by omega) with h | ⟨h, h'⟩ | ⟨h, h'⟩
      · rw [show decide (f ≤ r ∧ r ≤ t) = false by simp; omega, Bool.false_or] at HA
        go_wp2
        go_roundw
        case rel => exact ⟨k + 1, by omega, by go_num, HCH.out.alloc _, HA⟩
        case measure => simp [intOf]; omega
      · rw [show decide (f ≤ r ∧ r ≤ t) = false by simp; omega, Bool.false_or] at HA
        go_wp2
        go_roundw
        case rel => exact ⟨k + 1, by omega, by go_num, HCH.out.alloc _, HA⟩
        case measure => simp [intOf]; omega
      · rw [show decide (f ≤ r ∧ r ≤ t) = true by simp; omega, Bool.true_or] at HA
        go_wp2
        go_ret
        exact ⟨by rw [HA.out]; rfl, HCH.out.alloc _⟩
    · obtain rfl : k = l.length := by omega
      rw [List.drop_length] at HA
      go_wp2
      go_ret
      exact ⟨by rw [HA.out]; rfl, HCH.out⟩
def noneL : List (Int × Int) := [(0, 31), (127, 159), (768, 879), (55296, 57343)]
def wideL : List (Int × Int) := [(4352, 4447), (11904, 42191), (44032, 55203), (63744, 64255), (65072, 65135), (65280, 65376), (65504, 65510), (127744, 128591), (129280, 129535), (131072, 262141)]
/-- The two tables of cell stand in the heap. -/
def Tab (w : World) : Prop := Rd w 2 (.slice (some ⟨0, 0, none⟩) 4 4) 4 (spansV noneL) ∧ Rd w 2 (.slice (some ⟨1, 0, none⟩) 10 10) 10 (spansV wideL)
set_option maxRecDepth 100000 in
theorem Tab.kept {w w' : World} (h : Tab w) (hc : Chg w w' nob) : Tab w' := ⟨h.1.kept hc (fun _ _ => id), h.2.kept hc (fun _ _ => id)⟩
def widthF (r : Int) : Int := if r < 0 ∨ 1114111 < r ∨ amongF r noneL = true then 0 else if amongF r wideL = true then 2 else 1
set_option maxRecDepth 100000 in
set_option maxHeartbeats 4000000 in
theorem width_any (w : World) (r : Int) (ht : Tab w) : Calls Tryd.prog 116 #[.int .i32 r] w fun e w' => e = .returned (.int .i64 (widthF r)) ∧ Chg w w' nob := by
  obtain ⟨k1, e1⟩ : ∃ k, amongF r noneL = k := ⟨_, rfl⟩
  obtain ⟨k2, e2⟩ : ∃ k, amongF r wideL = k := ⟨_, rfl⟩
  have hm : widthF r = if r < 0 ∨ 1114111 < r ∨ k1 = true then 0 else if k2 = true then 2 else 1 := by rw [widthF, e1, e2]
  have E1 := Lib.hid e1
  have E2 := Lib.hid e2
  have HT := Lib.hid ht
  clear e1 e2 ht
  rcases (show r < 0 ∨ (0 ≤ r ∧ 1114111 < r) ∨ (0 ≤ r ∧ r ≤ 1114111) by omega) with h | ⟨h, h'⟩ | ⟨h, h'⟩
  · rw [if_pos (.inl h)] at hm
    rw [hm]
    clear hm
    go_enter Tryd.func116, Tryd.ntmps116
    go_wp2
    go_ret
    exact ⟨rfl, Chg.refl _ _⟩
  · rw [if_pos (.inr (.inl h'))] at hm
    rw [hm]
    clear hm
    go_enter Tryd.func116, Tryd.ntmps116
    go_wp2
    go_ret
    exact ⟨rfl, Chg.refl _ _⟩
  · have hm2 : widthF r = if k1 = true then 0 else if k2 = true then 2 else 1 := by
      rw [hm]
      have a : ¬ r < 0 := by omega
      have b : ¬ 1114111 < r := by omega
      simp [a, b]
    rw [hm2]
    clear hm hm2
    go_enter Tryd.func116, Tryd.ntmps116
    go_wp2_with fail
    go_at_call 125
    refine (among_any w r noneL _ HT.out.1 (by decide)).mono ?_
    rw [E1.out]
    rintro e w1 ⟨rfl, hc1⟩
    have H1 := Lib.hid hc1
    clear hc1
    cases k1
    · go_wp2_with fail
      go_at_call 125
      refine (among_any w1 r wideL _ (HT.out.kept H1.out).2 (by decide)).mono ?_
      rw [E2.out]
      rintro e w2 ⟨rfl, hc2⟩
      have H2 := Lib.hid hc2
      clear hc2
      cases k2
      · go_wp2
        go_ret
        exact ⟨rfl, H1.out.trans H2.out (fun _ _ h => h)⟩
      · go_wp2
        go_ret
        exact ⟨rfl, H1.out.trans H2.out (fun _ _ h => h)⟩
    · go_wp2
      go_ret
      exact ⟨rfl, H1.out⟩
end Go.Proofs.YtioabdoghophlaaDoor
