/-
  Packets: May, Same; the document's.
-/
import Derived.Test.YtajcefdbljbmdaaDoorBw
namespace Go.Proofs.YtajcefdbljbmdaaDoor
open Go.RowKit
set_option linter.unusedVariables false
set_option linter.unusedSimpArgs false

/-- A packet's fields, its body by the side. -/
structure Pk where
  d : Int
  v : Int
  n : Int
  b : List Int
deriving DecidableEq
def Pk.z : Pk := ⟨0, 0, 0, []⟩
def pkV (p : Pk) (vb : Value) : Value := .agg #[.int .i64 p.d, .int .i64 p.v, .int .u64 p.n, vb]
def pkC (p : Pk) (vb : Value) : Array Value := #[.int .i64 p.d, .int .i64 p.v, .int .u64 p.n, vb]
structure Pk.Ok (p : Pk) : Prop where
  d : -9223372036854775808 ≤ p.d ∧ p.d ≤ 9223372036854775807
  v : -9223372036854775808 ≤ p.v ∧ p.v ≤ 9223372036854775807
  n : 0 ≤ p.n ∧ p.n ≤ 18446744073709551615
def Pk.May (p : Pk) : Prop := (p.d = 1 ∨ p.d = 2) ∧ 0 ≤ p.v ∧ p.v < 8 ∧ 1 ≤ p.n ∧ p.n ≤ 4611686018427387904 ∧ p.b.length ≤ 1200
instance (p : Pk) : Decidable p.May := by unfold Pk.May; infer_instance
set_option maxRecDepth 100000 in
set_option maxHeartbeats 1500000 in
theorem may_any (w : World) (p : Pk) (vb : Value) (hb : By w vb p.b) : Calls Tryd.prog 34 #[pkV p vb] w fun e w' => e = .returned (.bool (decide p.May)) ∧ Chg w w' nob := by
  obtain ⟨d, v, n, b⟩ := p
  obtain ⟨ab, cb, rfl, _⟩ := hb.form
  have hu : ∀ x : Bool, (x = true ↔ ((d = 1 ∨ d = 2) ∧ 0 ≤ v ∧ v < 8 ∧ 1 ≤ n ∧ n ≤ 4611686018427387904 ∧ b.length ≤ 1200)) → Ending.returned (.bool x) = Ending.returned (.bool (decide (Pk.May ⟨d, v, n, b⟩))) := fun x hx => by
    congr 2
    rw [Bool.eq_iff_iff, hx, decide_eq_true_iff]
    exact Iff.rfl
  have HU := Lib.hid hu
  clear hu hb
  simp only [pkV]
  have h0 : (0 : Int) ≤ (b.length : Int) := by omega
  by_cases h1 : d = 1
  · subst h1
    go_enter Tryd.func34, Tryd.ntmps34
    go_wp2
    all_goals go_ret
    all_goals exact ⟨HU.out _ (by simp; omega), (Chg.refl w nob).alloc _⟩
  · have h1' : (d == 1) = false := by simpa using h1
    by_cases h2 : d = 2
    · subst h2
      go_enter Tryd.func34, Tryd.ntmps34
      go_wp2
      all_goals go_ret
      all_goals exact ⟨HU.out _ (by simp; omega), (Chg.refl w nob).alloc _⟩
    · have h2' : (d == 2) = false := by simpa using h2
      go_enter Tryd.func34, Tryd.ntmps34
      go_wp2
      all_goals go_ret
      all_goals exact ⟨HU.out _ (by simp; omega), (Chg.refl w nob).alloc _⟩
set_option maxRecDepth 100000 in
set_option maxHeartbeats 1500000 in
theorem rmay_any (w : World) (p : Pk) (vb : Value) (hb : By w vb p.b) : Calls Tryd.prog 35 #[pkV p vb] w fun e w' => e = .returned (.bool (decide p.May)) ∧ Chg w w' nob := by
  obtain ⟨d, v, n, b⟩ := p
  obtain ⟨ab, cb, rfl, _⟩ := hb.form
  have hu : ∀ x : Bool, (x = true ↔ ((d = 1 ∨ d = 2) ∧ 0 ≤ v ∧ v < 8 ∧ 1 ≤ n ∧ n ≤ 4611686018427387904 ∧ b.length ≤ 1200)) → Ending.returned (.bool x) = Ending.returned (.bool (decide (Pk.May ⟨d, v, n, b⟩))) := fun x hx => by
    congr 2
    rw [Bool.eq_iff_iff, hx, decide_eq_true_iff]
    exact Iff.rfl
  have HU := Lib.hid hu
  clear hu hb
  simp only [pkV]
  have h0 : (0 : Int) ≤ (b.length : Int) := by omega
  by_cases h1 : d = 1
  · subst h1
    go_enter Tryd.func35, Tryd.ntmps35
    go_wp2
    all_goals go_ret
    all_goals exact ⟨HU.out _ (by simp; omega), (Chg.refl w nob).alloc _⟩
  · have h1' : (d == 1) = false := by simpa using h1
    by_cases h2 : d = 2
    · subst h2
      go_enter Tryd.func35, Tryd.ntmps35
      go_wp2
      all_goals go_ret
      all_goals exact ⟨HU.out _ (by simp; omega), (Chg.refl w nob).alloc _⟩
    · have h2' : (d == 2) = false := by simpa using h2
      go_enter Tryd.func35, Tryd.ntmps35
      go_wp2
      all_goals go_ret
      all_goals exact ⟨HU.out _ (by simp; omega), (Chg.refl w nob).alloc _⟩
set_option maxRecDepth 100000 in
set_option maxHeartbeats 1500000 in
theorem same_any (w : World) (p q : Pk) (va vb : Value) (ha : By w va p.b) (hb : By w vb q.b) : Calls Tryd.prog 36 #[pkV p va, pkV q vb] w fun e w' => e = .returned (.bool (decide (p = q))) ∧ Chg w w' nob := by
  obtain ⟨d, v, n, b⟩ := p
  obtain ⟨d', v', n', b'⟩ := q
  have HA := Lib.hid ha
  have HB := Lib.hid hb
  clear ha hb
  simp only [pkV]
  by_cases h1 : d = d'
  · subst h1
    by_cases h2 : v = v'
    · subst h2
      by_cases h3 : n = n'
      · subst h3
        have he : decide ((⟨d, v, n, b⟩ : Pk) = ⟨d, v, n, b'⟩) = decide (b = b') := by simp
        rw [he]
        obtain ⟨bb, hbb⟩ : ∃ x, decide (b = b') = x := ⟨_, rfl⟩
        have HBB := Lib.hid hbb
        rw [hbb]
        clear he hbb
        go_enter Tryd.func36, Tryd.ntmps36
        go_wp2_with fail
        go_at_call 50
        refine (bequal_by ((HA.out.alloc _).alloc _) ((HB.out.alloc _).alloc _)).mono ?_
        rw [HBB.out]
        rintro e x ⟨rfl, rfl⟩
        go_wp2
        go_ret
        exact ⟨rfl, ((Chg.refl w nob).alloc _).alloc _⟩
      · have hf : Hid (decide ((⟨d, v, n, b⟩ : Pk) = ⟨d, v, n', b'⟩) = false) := Lib.hid (by simp [h3])
        rw [hf.out]
        have h3' : (n == n') = false := by simpa using h3
        go_enter Tryd.func36, Tryd.ntmps36
        go_wp2
        go_ret
        exact ⟨rfl, ((Chg.refl w nob).alloc _).alloc _⟩
    · have hf : Hid (decide ((⟨d, v, n, b⟩ : Pk) = ⟨d, v', n', b'⟩) = false) := Lib.hid (by simp [h2])
      rw [hf.out]
      have h2' : (v == v') = false := by simpa using h2
      go_enter Tryd.func36, Tryd.ntmps36
      go_wp2
      go_ret
      exact ⟨rfl, ((Chg.refl w nob).alloc _).alloc _⟩
  · have hf : Hid (decide ((⟨d, v, n, b⟩ : Pk) = ⟨d', v', n', b'⟩) = false) := Lib.hid (by simp [h1])
    rw [hf.out]
    have h1' : (d == d') = false := by simpa using h1
    go_enter Tryd.func36, Tryd.ntmps36
    go_wp2
    go_ret
    exact ⟨rfl, ((Chg.refl w nob).alloc _).alloc _⟩
set_option maxRecDepth 100000 in
set_option maxHeartbeats 1500000 in
theorem rsame_any (w : World) (p q : Pk) (va vb : Value) (ha : By w va p.b) (hb : By w vb q.b) : Calls Tryd.prog 33 #[pkV p va, pkV q vb] w fun e w' => e = .returned (.bool (decide (p = q))) ∧ Chg w w' nob := by
  obtain ⟨d, v, n, b⟩ := p
  obtain ⟨d', v', n', b'⟩ := q
  have HA := Lib.hid ha
  have HB := Lib.hid hb
  clear ha hb
  simp only [pkV]
  by_cases h1 : d = d'
  · subst h1
    by_cases h2 : v = v'
    · subst h2
      by_cases h3 : n = n'
      · subst h3
        have he : decide ((⟨d, v, n, b⟩ : Pk) = ⟨d, v, n, b'⟩) = decide (b = b') := by simp
        rw [he]
        obtain ⟨bb, hbb⟩ : ∃ x, decide (b = b') = x := ⟨_, rfl⟩
        have HBB := Lib.hid hbb
        rw [hbb]
        clear he hbb
        go_enter Tryd.func33, Tryd.ntmps33
        go_wp2_with fail
        go_at_call 18
        refine (bytes_by ((HA.out.alloc _).alloc _) ((HB.out.alloc _).alloc _)).mono ?_
        rw [HBB.out]
        rintro e x ⟨rfl, rfl⟩
        go_wp2
        go_ret
        exact ⟨rfl, ((Chg.refl w nob).alloc _).alloc _⟩
      · have hf : Hid (decide ((⟨d, v, n, b⟩ : Pk) = ⟨d, v, n', b'⟩) = false) := Lib.hid (by simp [h3])
        rw [hf.out]
        have h3' : (n == n') = false := by simpa using h3
        go_enter Tryd.func33, Tryd.ntmps33
        go_wp2
        go_ret
        exact ⟨rfl, ((Chg.refl w nob).alloc _).alloc _⟩
    · have hf : Hid (decide ((⟨d, v, n, b⟩ : Pk) = ⟨d, v', n', b'⟩) = false) := Lib.hid (by simp [h2])
      rw [hf.out]
      have h2' : (v == v') = false := by simpa using h2
      go_enter Tryd.func33, Tryd.ntmps33
      go_wp2
      go_ret
      exact ⟨rfl, ((Chg.refl w nob).alloc _).alloc _⟩
  · have hf : Hid (decide ((⟨d, v, n, b⟩ : Pk) = ⟨d', v', n', b'⟩) = false) := Lib.hid (by simp [h1])
    rw [hf.out]
    have h1' : (d == d') = false := by simpa using h1
    go_enter Tryd.func33, Tryd.ntmps33
    go_wp2
    go_ret
    exact ⟨rfl, ((Chg.refl w nob).alloc _).alloc _⟩
end Go.Proofs.YtajcefdbljbmdaaDoor
