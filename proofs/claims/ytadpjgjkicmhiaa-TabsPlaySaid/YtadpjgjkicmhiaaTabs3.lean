/-
  Package tabs: Next and Prev.
-/
import Derived.Test.YtadpjgjkicmhiaaTabs2
namespace Go.Proofs.Ytadpjgjkicmhiaa
open Go.RowKit
set_option linter.unusedVariables false
set_option linter.unusedSimpArgs false
attribute [local go_sem ↓] run_min_two run_max_two

/-- On from column c over n stops; d columns are left. -/
def up (l : List Bool) : Nat → Nat → Nat → Nat
  | 0, c, _ => c
  | d + 1, c, n => if n = 0 then c else up l d (c + 1) (if l.getD (c + 1) false then n - 1 else n)
/-- Back from column c over n stops. -/
def dn (l : List Bool) : Nat → Nat → Nat
  | 0, _ => 0
  | c + 1, n => if n = 0 then c + 1 else dn l c (if l.getD c false then n - 1 else n)

def clampC (l : List Bool) (c : Int) : Nat := min c.toNat (l.length - 1)
def clampN (n : Int) : Nat := (max n 1).toNat
def nextF (l : List Bool) (c n : Int) : Nat := up l (l.length - 1 - clampC l c) (clampC l c) (clampN n)
def prevF (l : List Bool) (c n : Int) : Nat := dn l (clampC l c) (clampN n)

set_option maxHeartbeats 4000000 in
theorem goes_up (w : World) (b : Nat) (l : List Bool) (F : Nat → Prop) (col n : Int) (h : Stops w b l F) (h1 : 1 ≤ l.length)
    (hc1 : -9223372036854775808 ≤ col) (hc2 : col ≤ 9223372036854775807) (hn1 : -9223372036854775808 ≤ n) (hn2 : n ≤ 9223372036854775807) :
    Calls Try.prog 24 #[.pointer (some ⟨b, 0, none⟩), .int .i64 col, .int .i64 n, .int .i64 1, .int .i64 (l.length - 1)] w fun e w' =>
      e = .returned (.int .i64 (nextF l col n)) ∧ w' = w := by
  obtain ⟨v, hb, ho, rfl, hl⟩ := h
  obtain ⟨ao, cap, rfl, hcap, hmax, hnone, hsome⟩ := ho.form
  cases ao with
  | none => have := (hnone rfl).1; omega
  | some a =>
    obtain ⟨g, rfl⟩ := hsome a rfl
    have hc0 : w.cell? ⟨b, 0, none⟩ = some (.slice (some ⟨g, 0, none⟩) l.length cap) := by rw [hb.cell]; rfl
    have hcell : ∀ k, k < l.length → w.cell? ⟨g, k, none⟩ = some (.bool (l.getD k false)) := fun k hk => mapCell ho hk
    have HC := Lib.hid hcell
    clear hnone hsome hcell
    obtain ⟨last, hlast⟩ : ∃ m, l.length = m + 1 := ⟨l.length - 1, by omega⟩
    have hN : mxI n 1 = ((clampN n : Nat) : Int) := by unfold mxI clampN; split <;> omega
    have hC : mnI (mxI col 0) (last : Int) = ((clampC l col : Nat) : Int) := by unfold mxI mnI clampC; rw [hlast]; (repeat' split) <;> omega
    have hc3 : clampC l col ≤ last := by unfold clampC; omega
    have hn3 : (clampN n : Int) ≤ 9223372036854775807 := by unfold clampN; omega
    have hres : nextF l col n = up l (last - clampC l col) (clampC l col) (clampN n) := by unfold nextF; rw [hlast]; rfl
    generalize clampC l col = c0 at *
    generalize clampN n = n0 at *
    generalize nextF l col n = r at *
    have HR := Lib.hid hres
    clear hres
    rw [hlast] at h1 hl hcap hc0
    rw [show (((l.length : Nat) : Int) - 1) = (last : Int) by omega]
    have HL := Lib.hid hlast
    clear hlast ho hb
    go_enter Try.func24, Try.ntmps24
    go_wp2
    go_loop [1, 2] (fun c n => ∃ ci ni d : Nat, ci + d = last ∧ c = .int .i64 ci ∧ n = .int .i64 ni ∧ (ni : Int) ≤ 9223372036854775807 ∧ Hid (r = up l d ci ni)) (fun c _ => last - (intOf c).toNat)
    case atStart => exact ⟨c0, n0, last - c0, by omega, rfl, rfl, hn3, HR⟩
    case round =>
      obtain ⟨ci, ni, d, hcd, rfl, rfl, hni, HU⟩ := hrel
      cases d with
      | zero =>
        obtain rfl : ci = last := by omega
        go_wp2
        go_ret
        exact ⟨by rw [HU.out]; rfl, rfl⟩
      | succ d =>
        have hlt : ci < last := by omega
        by_cases hn0 : ni = 0
        · subst hn0
          go_wp2
          go_ret
          exact ⟨by rw [HU.out]; simp [up], rfl⟩
        · have hn1' : 0 < ni := by omega
          have hcx := HC.out (ci + 1) (by rw [HL.out]; omega)
          cases hx : l.getD (ci + 1) false with
          | true =>
            rw [hx] at hcx
            have HX := Lib.hid hx
            clear hx
            go_wp2
            go_round
            case rel => exact ⟨ci + 1, ni - 1, d, by omega, by go_num, by go_num, by omega, by unfold Hid; rw [HU.out]; simp only [up]; rw [if_neg hn0, HX.out]; rfl⟩
            case measure => simp [intOf]; omega
          | false =>
            rw [hx] at hcx
            have HX := Lib.hid hx
            clear hx
            go_wp2
            go_round
            case rel => exact ⟨ci + 1, ni, d, by omega, by go_num, rfl, by omega, by unfold Hid; rw [HU.out]; simp only [up]; rw [if_neg hn0, HX.out]; rfl⟩
            case measure => simp [intOf]; omega

set_option maxHeartbeats 4000000 in
theorem goes_dn (w : World) (b : Nat) (l : List Bool) (F : Nat → Prop) (col n : Int) (h : Stops w b l F) (h1 : 1 ≤ l.length)
    (hc1 : -9223372036854775808 ≤ col) (hc2 : col ≤ 9223372036854775807) (hn1 : -9223372036854775808 ≤ n) (hn2 : n ≤ 9223372036854775807) :
    Calls Try.prog 24 #[.pointer (some ⟨b, 0, none⟩), .int .i64 col, .int .i64 n, .int .i64 (-1), .int .i64 0] w fun e w' =>
      e = .returned (.int .i64 (prevF l col n)) ∧ w' = w := by
  obtain ⟨v, hb, ho, rfl, hl⟩ := h
  obtain ⟨ao, cap, rfl, hcap, hmax, hnone, hsome⟩ := ho.form
  cases ao with
  | none => have := (hnone rfl).1; omega
  | some a =>
    obtain ⟨g, rfl⟩ := hsome a rfl
    have hc0 : w.cell? ⟨b, 0, none⟩ = some (.slice (some ⟨g, 0, none⟩) l.length cap) := by rw [hb.cell]; rfl
    have hcell : ∀ k, k < l.length → w.cell? ⟨g, k, none⟩ = some (.bool (l.getD k false)) := fun k hk => mapCell ho hk
    have HC := Lib.hid hcell
    clear hnone hsome hcell
    obtain ⟨last, hlast⟩ : ∃ m, l.length = m + 1 := ⟨l.length - 1, by omega⟩
    have hN : mxI n 1 = ((clampN n : Nat) : Int) := by unfold mxI clampN; split <;> omega
    have hC : mnI (mxI col 0) (last : Int) = ((clampC l col : Nat) : Int) := by unfold mxI mnI clampC; rw [hlast]; (repeat' split) <;> omega
    have hc3 : clampC l col ≤ last := by unfold clampC; omega
    have hn3 : (clampN n : Int) ≤ 9223372036854775807 := by unfold clampN; omega
    have hres : prevF l col n = dn l (clampC l col) (clampN n) := rfl
    generalize clampC l col = c0 at *
    generalize clampN n = n0 at *
    generalize prevF l col n = r at *
    have HR := Lib.hid hres
    clear hres
    rw [hlast] at h1 hl hcap hc0
    have HL := Lib.hid hlast
    clear hlast ho hb
    go_enter Try.func24, Try.ntmps24
    go_wp2
    go_loop [1, 2] (fun c n => ∃ ci ni : Nat, ci ≤ last ∧ c = .int .i64 ci ∧ n = .int .i64 ni ∧ (ni : Int) ≤ 9223372036854775807 ∧ Hid (r = dn l ci ni)) (fun c _ => (intOf c).toNat)
    case atStart => exact ⟨c0, n0, hc3, rfl, rfl, hn3, HR⟩
    case round =>
      obtain ⟨ci, ni, hcd, rfl, rfl, hni, HU⟩ := hrel
      cases ci with
      | zero =>
        go_wp2
        go_ret
        exact ⟨by rw [HU.out]; rfl, rfl⟩
      | succ d =>
        by_cases hn0 : ni = 0
        · subst hn0
          go_wp2
          go_ret
          exact ⟨by rw [HU.out]; simp [dn], rfl⟩
        · have hn1' : 0 < ni := by omega
          have hcx : w.cell? ⟨g, ((d : Int) + 1 + -1).toNat, none⟩ = some (.bool (l.getD d false)) := by rw [show ((d : Int) + 1 + -1).toNat = d by omega]; exact HC.out d (by rw [HL.out]; omega)
          cases hx : l.getD d false with
          | true =>
            rw [hx] at hcx
            have HX := Lib.hid hx
            clear hx
            go_wp2
            go_round
            case rel => exact ⟨d, ni - 1, by omega, by go_num, by go_num, by omega, by unfold Hid; rw [HU.out]; simp only [dn]; rw [if_neg hn0, HX.out]; rfl⟩
            case measure => simp [intOf]; omega
          | false =>
            rw [hx] at hcx
            have HX := Lib.hid hx
            clear hx
            go_wp2
            go_round
            case rel => exact ⟨d, ni, by omega, by go_num, rfl, by omega, by unfold Hid; rw [HU.out]; simp only [dn]; rw [if_neg hn0, HX.out]; rfl⟩
            case measure => simp [intOf]; omega

set_option maxHeartbeats 1000000 in
theorem next_any (w : World) (b : Nat) (l : List Bool) (F : Nat → Prop) (col n : Int) (h : Stops w b l F) (h1 : 1 ≤ l.length)
    (hc1 : -9223372036854775808 ≤ col) (hc2 : col ≤ 9223372036854775807) (hn1 : -9223372036854775808 ≤ n) (hn2 : n ≤ 9223372036854775807) :
    Calls Try.prog 10 #[.pointer (some ⟨b, 0, none⟩), .int .i64 col, .int .i64 n] w fun e w' =>
      e = .returned (.int .i64 (nextF l col n)) ∧ w' = w := by
  have h' := h
  obtain ⟨v, hb, ho, hF, hl⟩ := h'
  obtain ⟨ao, cap, rfl, hcap, hmax, _⟩ := ho.form
  have hc0 : w.cell? ⟨b, 0, none⟩ = some (.slice ao l.length cap) := by rw [hb.cell]; rfl
  have H := Lib.hid h
  clear h hF
  go_enter Try.func10, Try.ntmps10
  go_wp2_with (go_at_call 24; refine (goes_up _ b l F _ _ H.out h1 hc1 hc2 hn1 hn2).mono ?_; rintro e w' ⟨rfl, rfl⟩)
  go_ret
  exact ⟨rfl, rfl⟩
set_option maxHeartbeats 1000000 in
theorem prev_any (w : World) (b : Nat) (l : List Bool) (F : Nat → Prop) (col n : Int) (h : Stops w b l F) (h1 : 1 ≤ l.length)
    (hc1 : -9223372036854775808 ≤ col) (hc2 : col ≤ 9223372036854775807) (hn1 : -9223372036854775808 ≤ n) (hn2 : n ≤ 9223372036854775807) :
    Calls Try.prog 11 #[.pointer (some ⟨b, 0, none⟩), .int .i64 col, .int .i64 n] w fun e w' =>
      e = .returned (.int .i64 (prevF l col n)) ∧ w' = w := by
  have h' := h
  obtain ⟨v, hb, ho, hF, hl⟩ := h'
  obtain ⟨ao, cap, rfl, hcap, hmax, _⟩ := ho.form
  have hc0 : w.cell? ⟨b, 0, none⟩ = some (.slice ao l.length cap) := by rw [hb.cell]; rfl
  have H := Lib.hid h
  clear h hF
  go_enter Try.func11, Try.ntmps11
  go_wp2_with (go_at_call 24; refine (goes_dn _ b l F _ _ H.out h1 hc1 hc2 hn1 hn2).mono ?_; rintro e w' ⟨rfl, rfl⟩)
  go_ret
  exact ⟨rfl, rfl⟩
end Go.Proofs.Ytadpjgjkicmhiaa
