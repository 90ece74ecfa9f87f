
/-
  Packets: May, Same; the document's.
-/
import Derived.Test.YtcgdmidjejmjhaaDoorBw
namespace Go.Proofs.YtcgdmidjejmjhaaDoor
open Go.RowKit
set_option linter.unusedVariables false
set_option linter.unusedSimpArgs false

/-- A packet's fields, its body by the side. -/
structure Pk where
  d : Int
  v : Int
  n : Int
  b : List Int
deriving DecidableEq
def Pk.z : Pk := ⟨0, 0, 0, []⟩
def pkV (p : Pk) (vb : Value) : Value := .agg #[.int .i64 p.d, .int .i64 p.v, .int .u64 p.n, vb]
def pkC (p : Pk) (vb : Value) : Array Value := #[.int .i64 p.d, .int .i64 p.v, .int .u64 p.n, vb]
structure Pk.Ok (p : Pk) : Prop where
  d : -9223372036854775808 ≤ p.d ∧ p.d ≤ 9223372036854775807
  v : -9223372036854775808 ≤ p.v ∧ p.v ≤ 9223372036854775807
  n : 0 ≤ p.n ∧ p.n ≤ 18446744073709551615
def Pk.May (p : Pk) : Prop := (p.d = 1 ∨ p.d = 2) ∧ 0 ≤ p.v ∧ p.v < 8 ∧ 1 ≤ p.n ∧ p.n ≤ 4611686018427387904 ∧ p.b.length ≤ 1200
instance (p : Pk) : Decidable p.May := by unfold Pk.May; infer_instance
set_option maxRecDepth 100000 in
set_option maxHeartbeats 1500000 in
theorem may_any (w : World) (p : Pk) (vb : Value) (hb : By w vb p.b) : Calls Tryd.prog 16 #[pkV p vb] w fun e w' => e = .returned (.bool (decide p.May)) ∧ Chg w w' nob := by
  obtain ⟨d, v, n, b⟩ := p
  obtain ⟨ab, cb, rfl, _⟩ := hb.form
  have hu : ∀ x : Bool, (x = true ↔ ((d = 1 ∨ d = 2) ∧ 0 ≤ v ∧ v < 8 ∧ 1 ≤ n ∧ n ≤ 4611686018427387904 ∧ b.length ≤ 1200)) → Ending.returned (.bool x) = Ending.returned (.bool (decide (Pk.May ⟨d, v, n, b⟩))) := fun x hx => by
    congr 2
    rw [Bool.eq_iff_iff, hx, decide_eq_true_iff]
    exact Iff.rfl
  have HU := Lib.hid hu
  clear hu hb
  simp only [pkV]
  have h0 : (0 : Int) ≤ (b.length : Int) := by omega
  by_cases h1 : d = 1
  · subst h1
    go_enter Tryd.func16, Tryd.ntmps16
    go_wp2
    all_goals go_ret
    all_goals exact ⟨HU.out _ (by simp; omega), (Chg.refl w nob).alloc _⟩
  · have h1' : (d == 1) = false := by simpa using h1
    by_cases h2 : d = 2
    · subst h2
      go_enter Tryd.func16, Tryd.ntmps16
      go_wp2
      all_goals go_ret
      all_goals exact ⟨HU.out _ (by simp; omega), (Chg.refl w nob).alloc _⟩
    · have h2' : (d == 2) = false := by simpa using h2
      go_enter Tryd.func16, Tryd.ntmps16
      go_wp2
      all_goals go_ret
      all_goals exact ⟨HU.out _ (by simp; omega), (Chg.refl w nob).alloc _⟩
set_option maxRecDepth 100000 in
set_option maxHeartbeats 1500000 in
theorem rmay_any (w : World) (p : Pk) (vb : Value) (hb : By w vb p.b) : Calls Tryd.prog 27 #[pkV p vb] w fun e w' => e = .returned (.bool (decide p.May)) ∧ Chg w w' nob := by
  obtain ⟨d, v, n, b⟩ := p
  obtain ⟨ab, cb, rfl, _⟩ := hb.form
  have hu : ∀ x : Bool, (x = true ↔ ((d = 1 ∨ d = 2) ∧ 0 ≤ v ∧ v < 8 ∧ 1 ≤ n ∧ n ≤ 4611686018427387904 ∧ b.length ≤ 1200)) → Ending.returned (.bool x) = Ending.returned (.bool (decide (Pk.May ⟨d, v, n, b⟩))) := fun x hx => by
    congr 2
    rw [Bool.eq_iff_iff, hx, decide_eq_true_iff]
    exact Iff.rfl
  have HU := Lib.hid hu
  clear hu hb
  simp only [pkV]
  have h0 : (0 : Int) ≤ (b.length : Int) := by omega
  by_cases h1 : d = 1
  · subst h1
    go_enter Tryd.func27, Tryd.ntmps27
    go_wp2
    all_goals go_ret
    all_goals exact ⟨HU.out _ (by simp; omega), (Chg.refl w nob).alloc _⟩
  · have h1' : (d == 1) = false := by simpa using h1
    by_cases h2 : d = 2
    · subst h2
      go_enter Tryd.func27, Tryd.ntmps27
      go_wp2
      all_goals go_ret
      all_goals exact ⟨HU.out _ (by simp; omega), (Chg.refl w nob).alloc _⟩
    · have h2' : (d == 2) = false := by simpa using h2
      go_enter Tryd.func27, Tryd.ntmps27
      go_wp2
      all_goals go_ret
      all_goals exact ⟨HU.out _ (by simp; omega), (Chg.refl w nob).alloc _⟩
end Go.Proofs.YtcgdmidjejmjhaaDoor
