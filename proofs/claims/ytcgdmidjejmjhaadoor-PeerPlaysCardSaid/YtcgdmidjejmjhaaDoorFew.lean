
/-
  Are operations few and small? (chapter 27)
-/
import Derived.Test.YtcgdmidjejmjhaaDoorOps
namespace Go.Proofs.YtcgdmidjejmjhaaDoor
open Go.RowKit
set_option linter.unusedVariables false
set_option linter.unusedSimpArgs false

def cutB (o : O27) : Int := if 20001 < (o.b.length : Int) then 20001 else (o.b.length : Int)
def sumB (l : List O27) : Nat → Int
  | 0 => 0
  | i + 1 => sumB l i + cutB (l.getD i .z)
theorem cutB_b (o : O27) : 0 ≤ cutB o ∧ cutB o ≤ 20001 := by unfold cutB; split <;> omega
theorem sumB_b (l : List O27) : ∀ i, 0 ≤ sumB l i ∧ sumB l i ≤ 20001 * (i : Int)
  | 0 => by simp [sumB]
  | i + 1 => by
    have h1 := sumB_b l i
    have h2 := cutB_b (l.getD i .z)
    simp only [sumB]
    omega
theorem sumB_mono (l : List O27) : ∀ (i d : Nat), sumB l i ≤ sumB l (i + d)
  | i, 0 => Int.le_refl _
  | i, d + 1 => by
    have h1 := sumB_mono l i d
    have h2 := cutB_b (l.getD (i + d) .z)
    rw [← Nat.add_assoc, sumB]
    omega
/-- Few operations: each of at most 20000 bytes. -/
theorem sumB_each {l : List O27} {n i : Nat} (h : sumB l n ≤ 20000) (hi : i < n) : (l.getD i .z).b.length ≤ 20000 := by
  have h1 := sumB_mono l (i + 1) (n - (i + 1))
  rw [show i + 1 + (n - (i + 1)) = n by omega, sumB] at h1
  have h2 := sumB_b l i
  have h3 : cutB (l.getD i .z) ≤ 20000 := by omega
  unfold cutB at h3
  split at h3 <;> omega
def fewP (l : List O27) : Prop := l.length ≤ 100 ∧ sumB l l.length ≤ 20000
instance (l : List O27) : Decidable (fewP l) := by unfold fewP; infer_instance
attribute [local go_sem ↓] run_min_two
set_option maxRecDepth 100000 in
set_option maxHeartbeats 1500000 in
theorem few_any (w : World) (a : Option Addr) (c : Nat) (l : List O27) (h : OpsA w a c l) : Calls Tryd.prog 5 #[.slice a l.length c] w fun e w' => e = .returned (.bool (decide (fewP l))) ∧ w = w' := by
  have HA := Lib.hid h
  have h0 : (0 : Int) ≤ (l.length : Int) := by omega
  clear h
  obtain ⟨bb, hbb⟩ : ∃ b, decide (fewP l) = b := ⟨_, rfl⟩
  have HBB := Lib.hid hbb
  rw [hbb]
  clear hbb
  go_enter Tryd.func5, Tryd.ntmps5
  go_wp2_with fail
  go_loopw [3, 4] (fun nv iv wr => ∃ i : Nat, i ≤ l.length ∧ i ≤ 100 ∧ nv = .int .i64 (sumB l i) ∧ iv = .int .i64 i ∧ w = wr) (fun _ iv _ => l.length - (intOf iv).toNat)
  case atStart => exact ⟨0, by omega, by omega, rfl, rfl, by first | rfl | trivial⟩
  case round =>
    obtain ⟨i, hi, hi1, rfl, rfl, rfl⟩ := hrel
    by_cases hc2 : i < l.length ∧ i < 100
    · obtain ⟨hil, hi100⟩ := hc2
      have hii : (i : Int) < (l.length : Int) := by omega
      have hii1 : (i : Int) < 100 := by omega
      have hi0 : (0 : Int) ≤ (i : Int) := by omega
      obtain ⟨hok, g, o, u, rfl, _, _, _, hc, hb⟩ := HA.out.2 i hil
      obtain ⟨au, cu, rfl, _⟩ := hb.form
      obtain ⟨q, hq⟩ : ∃ q, l.getD i .z = q := ⟨_, rfl⟩
      have HS : Hid (sumB l (i + 1) = sumB l i + cutB q) := Lib.hid (by rw [sumB, hq])
      have hmn : mnI (q.b.length : Int) 20001 = cutB q := by unfold mnI cutB; rfl
      have HMN := Lib.hid hmn
      have hsb := sumB_b l i
      have hcb := cutB_b q
      rw [hq] at hc
      obtain ⟨sm, hsm⟩ : ∃ s, sumB l i = s := ⟨_, rfl⟩
      rw [hsm] at HS hsb ⊢
      obtain ⟨cz, hcz⟩ : ∃ s, cutB q = s := ⟨_, rfl⟩
      rw [hcz] at HS hcb HMN
      obtain ⟨sb1, sb2⟩ := hsb
      obtain ⟨cb1, cb2⟩ := hcb
      have hwn : IntKind.i64.wrap (sm + cz) = sm + cz := by simp only [IntKind.wrap, IntKind.bits, IntKind.signed]; simp; omega
      clear hmn hsm hcz hb hq hok
      go_wp2_with (rw [HMN.out])
      go_roundw
      case rel => exact ⟨i + 1, by omega, by omega, by rw [HS.out], by go_num, by first | rfl | trivial⟩
      case measure => simp [intOf]; omega
    · by_cases hl : l.length ≤ 100
      · obtain rfl : i = l.length := by omega
        have hbt : Hid (bb = decide (sumB l l.length ≤ 20000)) := Lib.hid (by rw [← HBB.out, Bool.eq_iff_iff, decide_eq_true_iff, decide_eq_true_iff]; exact ⟨fun h => h.2, fun h => ⟨hl, h⟩⟩)
        have hli : (l.length : Int) ≤ 100 := by omega
        go_wp2
        go_ret
        refine ⟨?_, rfl⟩
        show Ending.returned (Value.bool _) = _
        rw [hbt.out]
      · obtain rfl : i = 100 := by omega
        have hbt : Hid (bb = false) := Lib.hid (by rw [← HBB.out]; exact decide_eq_false (fun h => hl h.1))
        have hli : (100 : Int) < (l.length : Int) := by omega
        go_wp2
        go_ret
        exact ⟨by rw [hbt.out]; rfl, rfl⟩
end Go.Proofs.YtcgdmidjejmjhaaDoor
