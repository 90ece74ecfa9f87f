
/-
  IndexFinds: of entries whose times rise the one that is found is the last one at that time or ahead of it.
-/
import Derived.Test.YtmekakecdgblaaaIdx5
namespace Go.Proofs.Ytmekakecdgblaaa
open Go.RowKit
set_option linter.unusedVariables false
set_option linter.unusedSimpArgs false

theorem EnR.time {w : World} {a : Option Addr} {l : List En} (h : EnR w a l) {i : Nat} (hi : i < l.length) : ∃ b o, a = some ⟨b, o, none⟩ ∧ w.cell? ⟨b, o + i * 4 + 1, none⟩ = some (.int .u64 ((l.getD i zEn).t : Nat)) := by
  obtain ⟨b, o, h0, _, h1, _⟩ := h i (l.getD i zEn) (by rw [List.getD_eq_getElem?_getD, List.getElem?_eq_getElem hi]; rfl)
  exact ⟨b, o, h0, h1⟩
set_option maxRecDepth 100000 in
set_option maxHeartbeats 4000000 in
theorem IndexFinds_l (w : World) (a : Option Addr) (c : Nat) (l : List En) (h : EnR w a l) (t : Nat) :
    Calls Try.prog 4 #[.slice a l.length c, .int .u64 t] w fun e w' => e = .returned (.bool true) ∧ Chg w w' nob := by
  have HA := Lib.hid h
  obtain ⟨n, hn⟩ : ∃ n, l.length = n := ⟨_, rfl⟩
  have HN := Lib.hid hn
  obtain ⟨hs1, hs2⟩ := findN_spec l t l.length
  obtain ⟨hr1, hr2⟩ := findN_lt l t l.length
  obtain ⟨k, hk⟩ : ∃ k, findN l t l.length = k := ⟨_, rfl⟩
  have HK := Lib.hid hk
  rw [hk] at hs1 hs2 hr1 hr2
  rw [hn] at hs2 hr2 HK ⊢
  have HS1 := Lib.hid hs1
  have HS2 := Lib.hid hs2
  clear h hn hk hs1 hs2
  go_enter Try.func4, Try.ntmps4
  have HC : Hid (Chg w w nob) := Lib.hid (Chg.refl _ _)
  go_wp2_with fail
  go_at_call 5
  refine (ifirst_any w).mono ?_
  rintro e' w1 ⟨rfl, hck⟩
  replace HC := Lib.hid (HC.out.trans hck (fun _ _ h => h))
  clear hck
  by_cases hl : n ≤ 200
  · have hli : ¬ (200 : Int) < (n : Int) := by omega
    go_wp2_with fail
    go_loopw [5] (fun iv wr => ∃ i : Nat, 1 ≤ i ∧ iv = .int .i64 i ∧ Hid (Chg w wr nob)) (fun iv _ => n - (intOf iv).toNat)
    case atStart => exact ⟨1, Nat.le_refl _, rfl, HC⟩
    case round =>
      clear HC
      obtain ⟨i, hi1, rfl, HC⟩ := hrel
      rename World => wr
      by_cases hd : i < n
      · have hii : (i : Int) < (n : Int) := by omega
        have hi0 : (0 : Int) ≤ (i : Int) := by omega
        have hw1 : IntKind.i64.wrap ((i : Int) - 1) = ((i - 1 : Nat) : Int) := by simp only [IntKind.wrap, IntKind.bits, IntKind.signed]; simp; omega
        have hj0 : (0 : Int) ≤ ((i - 1 : Nat) : Int) := by omega
        have hj1 : ((i - 1 : Nat) : Int) < (n : Int) := by omega
        obtain ⟨b, o, rfl, c1⟩ := (HA.out.kept HC.out).time (i := i) (by rw [HN.out]; omega)
        obtain ⟨b', o', heq, d1⟩ := (HA.out.kept HC.out).time (i := i - 1) (by rw [HN.out]; omega)
        cases heq
        obtain ⟨x, hx⟩ : ∃ x, (l.getD i zEn).t = x := ⟨_, rfl⟩
        obtain ⟨y, hy⟩ : ∃ y, (l.getD (i - 1) zEn).t = y := ⟨_, rfl⟩
        obtain ⟨j, hj⟩ : ∃ j, i - 1 = j := ⟨_, rfl⟩
        rw [hx] at c1
        rw [hy] at d1
        rw [hj] at d1 hw1 hj0 hj1
        have HJ := Lib.hid hj
        clear hx hy hj
        by_cases hxy : x < y
        · have hxi : (x : Int) < (y : Int) := by omega
          --{A
          go_wp2_with fail
          go_quiet (fail)
          go_wp2_with fail
          go_at_call 5
          refine (ifirst_any _).mono ?_
          rintro e' wx ⟨rfl, hck⟩
          go_wp2
          go_ret
          exact ⟨rfl, (HC.out.drewN _).trans hck (fun _ _ h => h)⟩
          --}A
        · have hxi : ¬ (x : Int) < (y : Int) := by omega
          --{B
          go_wp2_with fail
          go_quiet (fail)
          go_wp2
          go_roundw
          case rel => exact ⟨i + 1, by omega, by go_num, Lib.hid (HC.out.drewN _)⟩
          case measure => simp [intOf]; omega
          --}B
      · have hii : ¬ (i : Int) < (n : Int) := by omega
        go_wp2_with fail
        go_at_call 13
        have h := find_any wr a c l (HA.out.kept HC.out) (by rw [HN.out]; omega) t
        rw [HN.out, HK.out] at h
        refine h.mono ?_
        rintro e' w2 ⟨rfl, hck⟩
        replace HC := Lib.hid (HC.out.trans hck (fun _ _ h => h))
        clear hck h
        have hk1 : ¬ k < -1 := by omega
        have hk2 : ¬ (n : Int) ≤ k := by omega
        by_cases hneg : k = -1
        · have hkb : (k == -1) = true := by rw [hneg]; rfl
          have hkw : IntKind.i64.wrap (k + 1) = 0 := by rw [hneg]; decide
          have HNG := Lib.hid hneg
          clear hneg hr1 hr2
          by_cases hn0 : 0 = n
          · have hq : ((0 : Int) == (n : Int)) = true := by rw [← hn0]; rfl
            clear hn0
            --{C
            go_wp2_with fail
            go_at_call 5
            refine (ifirst_any w2).mono ?_
            rintro e' w4 ⟨rfl, hck⟩
            replace HC := Lib.hid (HC.out.trans hck (fun _ _ h => h))
            (try replace c1 := hck.cell c1 id)
            (try replace d1 := hck.cell d1 id)
            clear hck
            go_wp2
            go_ret
            exact ⟨rfl, HC.out⟩
            --}C
          · have hq : ((0 : Int) == (n : Int)) = false := by rw [beq_eq_false_iff_ne]; omega
            --{D
            obtain ⟨b', o', heq, d1⟩ := (HA.out.kept HC.out).time (i := 0) (by rw [HN.out]; omega)
            cases heq
            obtain ⟨y, hy⟩ : ∃ y, (l.getD (0) zEn).t = y := ⟨_, rfl⟩
            have hyt : (t : Int) < (y : Int) := by
              have h := HS2.out (0) (by first | (rw [HNG.out]; omega) | (have := HM1.out; omega)) (by omega)
              rw [hy] at h
              omega
            have hj0 : (0 : Int) ≤ ((0 : Nat) : Int) := by omega
            have hj1 : ((0 : Nat) : Int) < (n : Int) := by omega
            rw [hy] at d1
            clear hy
            simp only [Nat.zero_mul, Nat.add_zero, Int.natCast_zero] at d1 hj0 hj1
            go_wp2_with fail
            go_at_call 5
            refine (ifirst_any w2).mono ?_
            rintro e' w4 ⟨rfl, hck⟩
            replace HC := Lib.hid (HC.out.trans hck (fun _ _ h => h))
            (try replace c1 := hck.cell c1 id)
            (try replace d1 := hck.cell d1 id)
            clear hck
            go_wp2
            go_ret
            exact ⟨rfl, HC.out⟩
            --}D
        · obtain ⟨m, hkm⟩ := Int.eq_ofNat_of_zero_le (show 0 ≤ k by omega)
          subst hkm
          have hkb : ((m : Int) == -1) = false := by rw [beq_eq_false_iff_ne]; omega
          have hkw : IntKind.i64.wrap ((m : Int) + 1) = ((m + 1 : Nat) : Int) := by simp only [IntKind.wrap, IntKind.bits, IntKind.signed]; simp; omega
          obtain ⟨m1, hm1⟩ : ∃ m1, m + 1 = m1 := ⟨_, rfl⟩
          rw [hm1] at hkw
          have hm0 : (0 : Int) ≤ (m : Int) := by omega
          have hmn : (m : Int) < (n : Int) := by omega
          have HM1 := Lib.hid hm1
          have hm1n : m1 ≤ n := by omega
          have HLE : Hid (((l.getD m zEn).t : Int) ≤ (t : Int)) := Lib.hid (by have := HS1.out m rfl; omega)
          clear hneg hr1 hr2 hk1 hm1
          have hk1 : ¬ (m : Int) < -1 := by omega
          by_cases hn0 : m1 = n
          · have hq : ((m1 : Int) == (n : Int)) = true := by rw [beq_iff_eq]; omega
            have HM2 := Lib.hid hn0
            clear hn0
            --{E
            obtain ⟨b, o, rfl, c1⟩ := (HA.out.kept HC.out).time (i := m) (by rw [HN.out]; omega)
            obtain ⟨x, hx⟩ : ∃ x, (l.getD m zEn).t = x := ⟨_, rfl⟩
            have hxt := HLE.out
            rw [hx] at c1 hxt
            clear hx
            go_wp2_with fail
            go_at_call 5
            refine (ifirst_any w2).mono ?_
            rintro e' w4 ⟨rfl, hck⟩
            replace HC := Lib.hid (HC.out.trans hck (fun _ _ h => h))
            (try replace c1 := hck.cell c1 id)
            (try replace d1 := hck.cell d1 id)
            clear hck
            go_wp2
            go_ret
            exact ⟨rfl, HC.out⟩
            --}E
          · have hq : ((m1 : Int) == (n : Int)) = false := by rw [beq_eq_false_iff_ne]; omega
            --{F
            obtain ⟨b, o, rfl, c1⟩ := (HA.out.kept HC.out).time (i := m) (by rw [HN.out]; omega)
            obtain ⟨x, hx⟩ : ∃ x, (l.getD m zEn).t = x := ⟨_, rfl⟩
            have hxt := HLE.out
            rw [hx] at c1 hxt
            clear hx
            obtain ⟨b', o', heq, d1⟩ := (HA.out.kept HC.out).time (i := m1) (by rw [HN.out]; omega)
            cases heq
            obtain ⟨y, hy⟩ : ∃ y, (l.getD (m1) zEn).t = y := ⟨_, rfl⟩
            have hyt : (t : Int) < (y : Int) := by
              have h := HS2.out (m1) (by first | (rw [HNG.out]; omega) | (have := HM1.out; omega)) (by omega)
              rw [hy] at h
              omega
            have hj0 : (0 : Int) ≤ ((m1 : Nat) : Int) := by omega
            have hj1 : ((m1 : Nat) : Int) < (n : Int) := by omega
            rw [hy] at d1
            clear hy
            go_wp2_with fail
            go_at_call 5
            refine (ifirst_any w2).mono ?_
            rintro e' w4 ⟨rfl, hck⟩
            replace HC := Lib.hid (HC.out.trans hck (fun _ _ h => h))
            (try replace c1 := hck.cell c1 id)
            (try replace d1 := hck.cell d1 id)
            clear hck
            go_wp2
            go_ret
            exact ⟨rfl, HC.out⟩
            --}F
  · have hli : (200 : Int) < (n : Int) := by omega
    go_wp2_with fail
    go_at_call 5
    refine (ifirst_any w1).mono ?_
    rintro e' w2 ⟨rfl, hck⟩
    replace HC := Lib.hid (HC.out.trans hck (fun _ _ h => h))
    clear hck
    go_wp2
    go_ret
    exact ⟨rfl, HC.out⟩
theorem IndexFinds_walk (w : World) (a0 : Option Addr) (len0 cap0 : Nat)
    (hr0 : ∀ i, i < len0 → ∃ b o, a0 = some ⟨b, o, none⟩ ∧ ∀ j k, ([.u64, .u64, .i64, .i64] : List IntKind)[j]? = some k → ∃ z, w.cell? ⟨b, o + i * ([.u64, .u64, .i64, .i64] : List IntKind).length + j, none⟩ = some (.int k z) ∧ (Lit.int k z).wf = true)
    (a1 : Int) (w1 : 0 ≤ a1 ∧ a1 ≤ 18446744073709551615) :
    Calls Try.prog 4 #[.slice a0 len0 cap0, .int .u64 a1] w fun e w' => e = .returned (.bool true) ∧ Chg w w' nob := by
  obtain ⟨l, hl, hok, hr⟩ := ents_open len0 hr0
  subst hl
  obtain ⟨t, rfl⟩ : ∃ t : Nat, a1 = (t : Int) := ⟨a1.toNat, by omega⟩
  exact IndexFinds_l w a0 cap0 l hr t
end Go.Proofs.Ytmekakecdgblaaa
