
/-
  Are cells alike (tikref.Cells)?
-/
import Derived.Test.YtioabdoghophlaaDoorRuns
namespace Go.Proofs.YtioabdoghophlaaDoor
open Go.RowKit
set_option linter.unusedVariables false
set_option linter.unusedSimpArgs false

attribute [local go_sem ↓] ce_guard run_eql_ce run_neq_ce
set_option maxRecDepth 100000 in
set_option maxHeartbeats 4000000 in
theorem tcells_any (w : World) (va vb : Value) (s t : List Ce) (ha : Rd w 5 va s.length (cellsV s)) (hb : Rd w 5 vb t.length (cellsV t)) (hl0 : s.length ≤ 1000000) :
    Calls Tryd.prog 16 #[va, vb] w fun e w' => e = .returned (.bool (decide (s = t))) ∧ Chg w w' nob := by
  obtain ⟨a, c, rfl, hsc, _⟩ := ha.form
  obtain ⟨b, d, rfl, htd, _⟩ := hb.form
  have HA := Lib.hid ha
  have HB := Lib.hid hb
  clear ha hb
  obtain ⟨r, hr⟩ : ∃ r, decide (s = t) = r := ⟨_, rfl⟩
  have HR := Lib.hid hr
  rw [hr]
  clear hr
  by_cases hl : s.length = t.length
  · obtain ⟨n, hn⟩ : ∃ n, s.length = n := ⟨_, rfl⟩
    have HN := Lib.hid hn
    have HM : Hid (t.length = n) := Lib.hid (by omega)
    rw [hn] at HA hl0 ⊢
    rw [← hl, hn] at HB ⊢
    clear hl hn
    have h0 : (0 : Int) ≤ (n : Int) := by omega
    go_enter Tryd.func16, Tryd.ntmps16
    go_wp2_with fail
    go_loopw [5] (fun iv wr => ∃ i : Nat, i ≤ n ∧ iv = .int .i64 i ∧ Hid (s.take i = t.take i) ∧ Hid (Chg w wr nob)) (fun iv _ => n - (intOf iv).toNat)
    case atStart => exact ⟨0, Nat.zero_le _, rfl, Lib.hid rfl, Lib.hid (Chg.refl _ _)⟩
    case round =>
      obtain ⟨i, hi, rfl, HT, HC⟩ := hrel
      by_cases hin : i < n
      · have hii : (i : Int) < (n : Int) := by omega
        have hi0 : (0 : Int) ≤ (i : Int) := by omega
        obtain ⟨x, hx⟩ : ∃ x, s[i]? = some x := ⟨s[i]'(by rw [HN.out]; omega), List.getElem?_eq_getElem _⟩
        obtain ⟨y, hy⟩ : ∃ y, t[i]? = some y := ⟨t[i]'(by rw [HM.out]; omega), List.getElem?_eq_getElem _⟩
        obtain ⟨ga, oa, rfl, a0, a1, a2, a3, a4⟩ := (HA.out.kept HC.out (fun _ _ => id)).cell5 hx
        obtain ⟨gb, ob, rfl, b0, b1, b2, b3, b4⟩ := (HB.out.kept HC.out (fun _ _ => id)).cell5 hy
        obtain ⟨q, hq⟩ : ∃ q, eqC x y = q := ⟨_, rfl⟩
        have HX := Lib.hid hx
        have HY := Lib.hid hy
        have HQ : Hid (q = true ↔ x = y) := Lib.hid (by rw [← hq]; simp [eqC])
        obtain ⟨x1, x2, x3, x4, x5⟩ := x
        obtain ⟨y1, y2, y3, y4, y5⟩ := y
        simp only at a0 a1 a2 a3 a4 b0 b1 b2 b3 b4
        clear hx hy
        cases q with
        | true =>
          have HXY := Lib.hid (HQ.out.1 rfl)
          go_wp2_with fail
          go_quiet (fail)
          go_wp2
          go_roundw
          case rel => exact ⟨i + 1, by omega, by go_num, Lib.hid (by rw [List.take_add_one, List.take_add_one, HT.out, HX.out, HY.out, HXY.out]), Lib.hid (HC.out.drewN _)⟩
          case measure => simp [intOf]; omega
        | false =>
          have hf : r = false := by
            rw [← HR.out]
            refine decide_eq_false fun e => ?_
            rw [e] at HX
            have := Option.some.inj (HX.out.symm.trans HY.out)
            have h2 := HQ.out.2 this
            cases h2
          go_wp2_with fail
          go_quiet (fail)
          go_wp2
          go_ret
          exact ⟨by rw [hf]; rfl, HC.out.drewN _⟩
      · obtain rfl : i = n := by omega
        have hf : r = true := by
          rw [← HR.out]
          refine decide_eq_true ?_
          have h := HT.out
          rwa [List.take_of_length_le (by rw [HN.out]; exact Nat.le_refl _), List.take_of_length_le (by rw [HM.out]; exact Nat.le_refl _)] at h
        go_wp2
        go_ret
        exact ⟨by rw [hf]; rfl, HC.out⟩
  · have hf : r = false := by rw [← HR.out]; exact decide_eq_false (fun e => hl (by rw [e]))
    have hl' : ((s.length : Int) != (t.length : Int)) = true := by simp; omega
    clear hl
    go_enter Tryd.func16, Tryd.ntmps16
    go_wp2
    go_ret
    exact ⟨by rw [hf]; rfl, Chg.refl _ _⟩
end Go.Proofs.YtioabdoghophlaaDoor
