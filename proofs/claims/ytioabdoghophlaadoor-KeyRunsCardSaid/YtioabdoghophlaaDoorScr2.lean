
/-
  Screens: may a screen be.
-/
import Derived.Test.YtioabdoghophlaaDoorScr
import Derived.Test.YtioabdoghophlaaDoorTitle
namespace Go.Proofs.YtioabdoghophlaaDoor
open Go.RowKit
set_option linter.unusedVariables false
set_option linter.unusedSimpArgs false

abbrev scV (r c : Int) (v : Value) (y x : Int) (h : Bool) (t : ByteArray) : Value := .agg #[.int .i64 r, .int .i64 c, v, .int .i64 y, .int .i64 x, .bool h, .string t]
abbrev scA (r c : Int) (v : Value) (y x : Int) (h : Bool) (t : ByteArray) : Array Value := #[.int .i64 r, .int .i64 c, v, .int .i64 y, .int .i64 x, .bool h, .string t]
def mayS (r c : Int) (l : List Ce) (y x : Int) (t : ByteArray) : Bool := mendF r c l && decide (0 ≤ y ∧ y < r ∧ 0 ≤ x ∧ x < c) && titleF t
set_option maxRecDepth 100000 in
set_option maxHeartbeats 8000000 in
theorem mayscr_any (w : World) (r c y x : Int) (h : Bool) (t : ByteArray) (va : Value) (l : List Ce) (ha : Rd w 5 va l.length (cellsV l)) (hl : l.length ≤ 1000000) (hs : t.size ≤ 1000000) (ht : Tab w) :
    Calls Tryd.prog 25 #[scV r c va y x h t] w fun e w' => e = .returned (.bool (mayS r c l y x t)) ∧ Chg w w' nob := by
  obtain ⟨a1, c1, rfl, hn1, _⟩ := ha.form
  have HC := Lib.hid ha
  have HT := Lib.hid ht
  obtain ⟨m, hm⟩ : ∃ m, mendF r c l = m := ⟨_, rfl⟩
  obtain ⟨k, hk⟩ : ∃ k, titleF t = k := ⟨_, rfl⟩
  obtain ⟨d, hd⟩ : ∃ d, decide (0 ≤ y ∧ y < r ∧ 0 ≤ x ∧ x < c) = d := ⟨_, rfl⟩
  have hms : mayS r c l y x t = (m && d && k) := by rw [mayS, hm, hk, hd]
  rw [hms]
  have HM := Lib.hid hm
  have HK := Lib.hid hk
  have HD := Lib.hid hd
  clear ha ht hm hk hd hms
  go_enter Tryd.func25, Tryd.ntmps25
  go_wp2_with fail
  go_at_call 62
  refine (mended_any _ r c _ l (HC.out.alloc _) hl (HT.out.kept ((Chg.refl w nob).alloc _))).mono ?_
  rw [HM.out]
  rintro e w1 ⟨rfl, hc1⟩
  have hb := (Blk.new w 39 _).kept hc1 id
  have H1 : Hid (Chg w w1 nob) := Lib.hid (((Chg.refl w nob).alloc _).trans hc1 (fun _ _ h => h))
  clear hc1
  have u0 := hb.cell 0
  have u1 := hb.cell 1
  have u2 := hb.cell 2
  have u3 := hb.cell 3
  have u4 := hb.cell 4
  have u5 := hb.cell 5
  have u6 := hb.cell 6
  simp only [List.getElem?_toArray, List.getElem?_cons_zero, List.getElem?_cons_succ] at u0 u1 u2 u3 u4 u5 u6
  clear hb
  cases m
  · go_wp2
    go_ret
    exact ⟨rfl, H1.out⟩
  · rcases (show y < 0 ∨ (0 ≤ y ∧ r ≤ y) ∨ (0 ≤ y ∧ y < r ∧ x < 0) ∨ (0 ≤ y ∧ y < r ∧ 0 ≤ x ∧ c ≤ x) ∨ (0 ≤ y ∧ y < r ∧ 0 ≤ x ∧ x < c) by omega) with h1 | ⟨h1, h2⟩ | ⟨h1, h2, h3⟩ | ⟨h1, h2, h3, h4⟩ | ⟨h1, h2, h3, h4⟩
    · obtain rfl : d = false := by rw [← HD.out]; simp; omega
      go_wp2
      go_ret
      exact ⟨rfl, H1.out⟩
    · obtain rfl : d = false := by rw [← HD.out]; simp; omega
      go_wp2
      go_ret
      exact ⟨rfl, H1.out⟩
    · obtain rfl : d = false := by rw [← HD.out]; simp; omega
      go_wp2
      go_ret
      exact ⟨rfl, H1.out⟩
    · obtain rfl : d = false := by rw [← HD.out]; simp; omega
      have h5 : ¬ x < c := by omega
      go_wp2
      go_ret
      exact ⟨rfl, H1.out⟩
    · obtain rfl : d = true := by rw [← HD.out]; simp; omega
      go_wp2_with fail
      go_at_call 63
      refine (title_any w1 t hs).mono ?_
      rw [HK.out]
      rintro e w2 ⟨rfl, hc2⟩
      have H2 : Hid (Chg w w2 nob) := Lib.hid (H1.out.trans hc2 (fun _ _ h => h))
      clear hc2
      cases k
      all_goals
        go_wp2
        go_ret
        exact ⟨rfl, H2.out⟩
end Go.Proofs.YtioabdoghophlaaDoor
