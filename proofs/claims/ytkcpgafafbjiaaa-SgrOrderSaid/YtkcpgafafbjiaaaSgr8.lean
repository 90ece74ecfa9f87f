/-
  Chapter 9: what may be stays so; copies; do params end amidst a colour.
-/
import Derived.Test.YtkcpgafafbjiaaaSgr7
namespace Go.Proofs.Ytkcpgafafbjiaaa
open Go.RowKit
set_option linter.unusedVariables false
set_option linter.unusedSimpArgs false

theorem flagF_b (n : Int) : 0 ≤ flagF n ∧ flagF n ≤ 128 := by unfold flagF; (repeat' split) <;> omega
theorem toNat_small {x : Int} (h : 0 ≤ x ∧ x ≤ 255) : (BitVec.ofInt 64 x).toNat < 256 := by
  simp only [BitVec.toNat_ofInt]
  omega
theorem setF_small {f n : Int} (h : 0 ≤ f ∧ f ≤ 255) : 0 ≤ setF f n ∧ setF f n ≤ 255 := by
  have hb := flagF_b n
  have h1 := toNat_small h
  have h2 := toNat_small (x := flagF n) (by omega)
  have h3 : ((BitVec.ofInt 64 f ||| BitVec.ofInt 64 (flagF n)) &&& ~~~ BitVec.ofInt 64 (clearF n)).toNat < 256 := by
    rw [BitVec.toNat_and, BitVec.toNat_or]
    exact Nat.lt_of_le_of_lt Nat.and_le_left (Nat.or_lt_two_pow (n := 8) h1 h2)
  rw [setF_bits, wraps_i64 _ (by omega) (by omega)]
  omega
theorem col_may (n f b : Int) (h : (colF n f b).2 = true) : mayC (colF n f b).1 = true := by
  unfold colF at h ⊢
  split
  · simp [mayC]; omega
  · split
    · simp [mayC]; omega
    · split
      · simp [mayC]
      · rename_i h1 h2 h3; rw [if_neg h1, if_neg h2, if_neg h3] at h; cases h
def mayT (a : Int × Int × Int) : Bool := mayF a.1 a.2.1 a.2.2
theorem mayT_iff {f g b : Int} : mayT (f, g, b) = true ↔ (0 ≤ f ∧ f ≤ 255) ∧ mayC g = true ∧ mayC b = true := by simp [mayT, mayF, and_assoc]
theorem one_may {a : Int × Int × Int} (n : Int) (h : mayT a = true) : mayT (oneF a n) = true := by
  obtain ⟨f, g, b⟩ := a
  unfold oneF
  split
  · split
    · decide
    · exact h
  · obtain ⟨h1, h2, h3⟩ := mayT_iff.1 h
    refine mayT_iff.2 ⟨setF_small h1, ?_, ?_⟩
    · cases hc : (colF n 30 90).2
      · simpa using h2
      · simpa using col_may n 30 90 hc
    · cases hc : (colF n 40 100).2
      · simpa using h3
      · simpa using col_may n 40 100 hc
theorem given_may {l : List Int} (h : (givenF l).2.2 = true) : mayC (givenF l).1 = true := by
  unfold givenF at h ⊢
  split
  · rename_i h0; rw [if_pos h0] at h; cases h
  · rename_i h0
    rw [if_neg h0] at h
    cases ha : accF 0 ((l.take (usedF l)).drop 1) with
    | none => rw [ha] at h; cases h
    | some all =>
      have hz := accF_b _ 0 all 1 (by omega) (by omega) ha
      have hlen : ((l.take (usedF l)).drop 1).length ≤ usedF l - 1 := by simp; omega
      have hu : usedF l = 2 ∨ usedF l = 4 := by
        have : usedF l = 0 ∨ usedF l = 2 ∨ usedF l = 4 := by unfold usedF; (repeat' split) <;> simp
        omega
      show mayC (if usedF l = 2 then 1 + all else 16777216 + all) = true
      rcases hu with hu | hu
      · rw [if_pos hu]
        have : all < 256 := by
          refine Int.lt_of_lt_of_le hz.2 ?_
          rcases (show ((l.take (usedF l)).drop 1).length = 0 ∨ ((l.take (usedF l)).drop 1).length = 1 by omega) with e | e <;> rw [e] <;> decide
        simp [mayC]; omega
      · rw [if_neg (by omega)]
        have : all < 16777216 := by
          refine Int.lt_of_lt_of_le hz.2 ?_
          rcases (show ((l.take (usedF l)).drop 1).length = 0 ∨ ((l.take (usedF l)).drop 1).length = 1 ∨ ((l.take (usedF l)).drop 1).length = 2 ∨ ((l.take (usedF l)).drop 1).length = 3 by omega) with e | e | e | e <;> rw [e] <;> decide
        simp [mayC]; omega
theorem applyR_may : ∀ (k : Nat) (a : Int × Int × Int) (l : List Int), mayT a = true → mayT (applyR k a l) = true
  | 0, a, l, h => h
  | k + 1, a, [], h => h
  | k + 1, a, n :: t, h => by
    simp only [applyR]
    split
    · exact applyR_may k _ t (one_may n h)
    · split
      · exact h
      · refine applyR_may k _ _ ?_
        obtain ⟨f, g, b⟩ := a
        obtain ⟨h1, h2, h3⟩ := mayT_iff.1 h
        cases hg : (givenF t).2.2
        · simpa using h
        · simp only [if_true]
          split
          · exact mayT_iff.2 ⟨h1, given_may hg, h3⟩
          · exact mayT_iff.2 ⟨h1, h2, given_may hg⟩
theorem applyF_may (a : Int × Int × Int) (l : List Int) (h : mayT a = true) : mayT (applyF a l) = true := by
  unfold applyF
  split
  · decide
  · exact applyR_may _ _ _ h

theorem Rd.nil0 {w : World} {ao : Option Addr} {cap : Nat} {xs : List Int} (hr : Rd w 1 (.slice ao xs.length cap) xs.length (intI xs)) (hn : ao = none → cap = 0) : ao = none → xs.length = 0 ∧ cap = 0 := fun h => by
  refine ⟨?_, hn h⟩
  subst h
  cases xs with
  | nil => rfl
  | cons x t => obtain ⟨_, _, h, _⟩ := hr.cell (j := 0) (u := .int .i64 x) rfl; cases h
theorem Rd.news {w : World} {ao : Option Addr} {n cap : Nat} {xs : List Int} (hr : Rd w 1 (.slice ao n cap) n (intI xs)) : ∀ a, ao = some a → ∀ j u, (intI xs)[j]? = some u → w.cell? (a.add j) = some u := fun a ha j u hu => by
  obtain ⟨b', o', h1, h2⟩ := hr.cell hu
  rw [ha] at h1
  cases h1
  rw [Addr.add_lit]; exact h2
theorem copy_any (w : World) (ao : Option Addr) (cap : Nat) (xs : List Int) (ha : Rd w 1 (.slice ao xs.length cap) xs.length (intI xs)) (hn : ao = none → cap = 0) (hl : xs.length ≤ 1000000) :
    Calls Try.prog 11 #[.slice ao xs.length cap] w fun e w' => ∃ v, e = .returned v ∧ Nx w w' v xs := by
  have hr : Rd (w.alloc (.cells #[] 3)) 1 (.slice ao xs.length cap) xs.length (intI xs) := ha.alloc _
  have hnews := Lib.hid hr.news
  have hnil := Lib.hid (ha.nil0 hn)
  have hone := Lib.hid (oneV xs)
  have hown : Own (w.alloc (.cells #[] 3)) 3 1 (.slice (some ⟨w.heap.size, 0, none⟩) 0 0) 0 [] := Own.lit w 3 #[] (by decide)
  clear hr ha hn
  go_enter Try.func11, Try.ntmps11
  go_wp2_with (at_builtin; refine wpList_app rfl (.tmp 3) (.tmp 4) 24 rfl 3 (.int .i64 0) 1 8 i_int u_ints rfl (by decide) _ 0 _ rfl hown ao xs.length cap (intI xs) rfl hnil.out (by simp [intI]) hnews.out hone.out (by unfold maxLen; omega) (by omega) ?_)
  intro v5 w5 ho5 hch5 hfo5
  go_wp2
  go_ret
  refine ⟨_, rfl, by simpa using ho5, ((Chg.refl w nob).alloc _).trans hch5 (fun i hi h => ?_), fun k hk => ?_⟩
  · cases h; simp at hi
  · rcases hfo5 k hk with h | h
    · cases h; exact Nat.le_refl _
    · have := size_al w (.cells #[] 3); omega

set_option maxRecDepth 100000 in
set_option maxHeartbeats 8000000 in
theorem cut_any (w : World) (va : Value) (l : List Int) (ha : Rd w 1 va l.length (intI l)) (hl : l.length ≤ 1000000) :
    Calls Try.prog 10 #[va] w fun e w' => ∃ k : Bool, e = .returned (.bool k) ∧ (k = false → NoCut l) ∧ w' = w := by
  obtain ⟨ao, cap, rfl, hcap, _⟩ := ha.form
  have hcell : ∀ k, k < l.length → ∃ g o, ao = some ⟨g, o, none⟩ ∧ w.cell? ⟨g, o + k, none⟩ = some (.int .i64 (l.getD k 0)) := fun k hk => ha.cell (j := k) (by simp [intI, List.getD, hk])
  have HC := Lib.hid hcell
  clear hcell ha
  obtain ⟨m, hm⟩ : ∃ m : Nat, l.length - 4 = m := ⟨_, rfl⟩
  have HM : Hid (l.length - 4 = m) := Lib.hid hm
  go_enter Try.func10, Try.ntmps10
  have hstart : (l.length < 4 ∧ m = 0) ∨ (4 ≤ l.length ∧ m + 4 = l.length) := by omega
  have HL2 : Hid ((∀ j, m ≤ j → j < l.length → ¬ isC (l.getD j 0)) → (∀ j, j < l.length → isC (l.getD j 0) → j + 1 < l.length ∧ (l.getD (j + 1) 0 = 5 ∨ l.getD (j + 1) 0 = 2)) → NoCut l) := Lib.hid (fun h1 h2 i hi hc => by
    have : ¬ m ≤ i := fun h => h1 i h hi hc
    exact ⟨by omega, (h2 i hi hc).2⟩)
  have hml : m ≤ l.length := by omega
  clear hm HM
  rcases hstart with ⟨h4, rfl⟩ | ⟨h4, hm4⟩
  · have n4 : (l.length : Int) - 4 < 0 := by omega
    go_wp2_with fail
    go_loopw [3] (fun i wr => ∃ k : Nat, 0 ≤ k ∧ k ≤ l.length ∧ i = .int .i64 k ∧ Hid (∀ j, 0 ≤ j → j < k → ¬ isC (l.getD j 0)) ∧ wr = w) (fun i _ => l.length - (intOf i).toNat)
    case atStart => exact ⟨0, by omega, by omega, by first | rfl | (congr 1; omega), (fun j h h' => by omega), rfl⟩
    case round =>
      obtain ⟨k, hk1, hk, rfl, H1, rfl⟩ := hrel
      by_cases hkl : k < l.length
      · have hki : (k : Int) < (l.length : Int) := by omega
        obtain ⟨g, o, rfl, hcx⟩ := HC.out k hkl
        obtain ⟨x, hx⟩ : ∃ x, l.getD k 0 = x := ⟨_, rfl⟩
        rw [hx] at hcx
        have HX := Lib.hid hx
        clear hx
        by_cases hc : x = 38 ∨ x = 48
        · rcases hc with rfl | rfl
          all_goals
            go_wp2
            go_ret
            exact ⟨true, rfl, (fun h => by cases h), rfl⟩
        · have n1 : (x == 38) = false := by simp; omega
          have n2 : (x == 48) = false := by simp; omega
          go_wp2
          go_roundw
          case rel =>
            refine ⟨k + 1, by omega, by omega, by go_num, fun j h h' => ?_, by first | rfl | trivial⟩
            by_cases hj : j = k
            · subst hj; rw [HX.out]; exact hc
            · exact H1.out j h (by omega)
          case measure => simp [intOf]; omega
      · obtain rfl : k = l.length := by omega
        go_wp2_with fail
        go_loopw [4] (fun i wr2 => ∃ k : Nat, k ≤ l.length ∧ i = .int .i64 k ∧ Hid (∀ j, j < k → isC (l.getD j 0) → j + 1 < l.length ∧ (l.getD (j + 1) 0 = 5 ∨ l.getD (j + 1) 0 = 2)) ∧ wr2 = wr) (fun i _ => l.length - (intOf i).toNat)
        case atStart => exact ⟨0, by omega, rfl, (fun j h => by omega), rfl⟩
        case round =>
          obtain ⟨k, hk, rfl, H2, rfl⟩ := hrel
          by_cases hkl : k < l.length
          · have hki : (k : Int) < (l.length : Int) := by omega
            obtain ⟨g, o, rfl, hcx⟩ := HC.out k hkl
            obtain ⟨x, hx⟩ : ∃ x, l.getD k 0 = x := ⟨_, rfl⟩
            rw [hx] at hcx
            have HX := Lib.hid hx
            clear hx
            by_cases hc : x = 38 ∨ x = 48
            · have hnx : Hid (isC x) := hc
              by_cases hke : k + 1 = l.length
              · have n5 : ((k : Int) + 1 == (l.length : Int)) = true := by simp; omega
                rcases hc with rfl | rfl
                all_goals
                  go_wp2
                  go_ret
                  exact ⟨true, rfl, (fun h => by cases h), rfl⟩
              · have n5 : ((k : Int) + 1 == (l.length : Int)) = false := by simp; omega
                have hk1l : k + 1 < l.length := by omega
                have n6 : (k : Int) + 1 < (l.length : Int) := by omega
                have n7 : 0 ≤ (k : Int) + 1 := by omega
                obtain ⟨g', o', hgo, hcy⟩ := HC.out (k + 1) hk1l
                cases hgo
                obtain ⟨y, hy⟩ : ∃ y, l.getD (k + 1) 0 = y := ⟨_, rfl⟩
                rw [hy] at hcy
                have HY := Lib.hid hy
                clear hy
                by_cases hy5 : y = 5 ∨ y = 2
                · have HY5 : Hid (y = 5 ∨ y = 2) := hy5
                  have HE : Hid (∀ j, j < k + 1 → isC (l.getD j 0) → j + 1 < l.length ∧ (l.getD (j + 1) 0 = 5 ∨ l.getD (j + 1) 0 = 2)) := fun j h hcj => by
                    by_cases hj : j = k
                    · subst hj; exact ⟨hk1l, by rw [HY.out]; exact HY5.out⟩
                    · exact H2.out j (by omega) hcj
                  rcases hc with rfl | rfl
                  all_goals rcases hy5 with rfl | rfl
                  all_goals
                    go_wp2
                    go_roundw
                    case rel => exact ⟨k + 1, by omega, by go_num, HE, by first | rfl | trivial⟩
                    case measure => simp [intOf]; omega
                · have m1 : (y != 5) = true := by simp; omega
                  have m2 : (y != 2) = true := by simp; omega
                  rcases hc with rfl | rfl
                  all_goals
                    go_wp2
                    go_ret
                    exact ⟨true, rfl, (fun h => by cases h), rfl⟩
            · have n1 : (x == 38) = false := by simp; omega
              have n2 : (x == 48) = false := by simp; omega
              go_wp2
              go_roundw
              case rel =>
                refine ⟨k + 1, by omega, by go_num, fun j h hcj => ?_, by first | rfl | trivial⟩
                by_cases hj : j = k
                · subst hj; rw [HX.out] at hcj; exact absurd hcj hc
                · exact H2.out j (by omega) hcj
              case measure => simp [intOf]; omega
          · obtain rfl : k = l.length := by omega
            go_wp2
            go_ret
            exact ⟨false, rfl, fun _ => HL2.out H1.out H2.out, rfl⟩
  · have n4 : ¬ (l.length : Int) - 4 < 0 := by omega
    have e4 : (l.length : Int) - 4 = (m : Int) := by omega
    have hm5 := Lib.hid hm4
    clear hm4
    go_wp2_with fail
    go_loopw [3] (fun i wr => ∃ k : Nat, m ≤ k ∧ k ≤ l.length ∧ i = .int .i64 k ∧ Hid (∀ j, m ≤ j → j < k → ¬ isC (l.getD j 0)) ∧ wr = w) (fun i _ => l.length - (intOf i).toNat)
    case atStart => exact ⟨m, by omega, by omega, by first | rfl | (congr 1; omega), (fun j h h' => by omega), rfl⟩
    case round =>
      obtain ⟨k, hk1, hk, rfl, H1, rfl⟩ := hrel
      by_cases hkl : k < l.length
      · have hki : (k : Int) < (l.length : Int) := by omega
        obtain ⟨g, o, rfl, hcx⟩ := HC.out k hkl
        obtain ⟨x, hx⟩ : ∃ x, l.getD k 0 = x := ⟨_, rfl⟩
        rw [hx] at hcx
        have HX := Lib.hid hx
        clear hx
        by_cases hc : x = 38 ∨ x = 48
        · rcases hc with rfl | rfl
          all_goals
            go_wp2
            go_ret
            exact ⟨true, rfl, (fun h => by cases h), rfl⟩
        · have n1 : (x == 38) = false := by simp; omega
          have n2 : (x == 48) = false := by simp; omega
          go_wp2
          go_roundw
          case rel =>
            refine ⟨k + 1, by omega, by omega, by go_num, fun j h h' => ?_, by first | rfl | trivial⟩
            by_cases hj : j = k
            · subst hj; rw [HX.out]; exact hc
            · exact H1.out j h (by omega)
          case measure => simp [intOf]; omega
      · obtain rfl : k = l.length := by omega
        go_wp2_with fail
        go_loopw [4] (fun i wr2 => ∃ k : Nat, k ≤ l.length ∧ i = .int .i64 k ∧ Hid (∀ j, j < k → isC (l.getD j 0) → j + 1 < l.length ∧ (l.getD (j + 1) 0 = 5 ∨ l.getD (j + 1) 0 = 2)) ∧ wr2 = wr) (fun i _ => l.length - (intOf i).toNat)
        case atStart => exact ⟨0, by omega, rfl, (fun j h => by omega), rfl⟩
        case round =>
          obtain ⟨k, hk, rfl, H2, rfl⟩ := hrel
          by_cases hkl : k < l.length
          · have hki : (k : Int) < (l.length : Int) := by omega
            obtain ⟨g, o, rfl, hcx⟩ := HC.out k hkl
            obtain ⟨x, hx⟩ : ∃ x, l.getD k 0 = x := ⟨_, rfl⟩
            rw [hx] at hcx
            have HX := Lib.hid hx
            clear hx
            by_cases hc : x = 38 ∨ x = 48
            · have hnx : Hid (isC x) := hc
              by_cases hke : k + 1 = l.length
              · have n5 : ((k : Int) + 1 == (l.length : Int)) = true := by simp; omega
                rcases hc with rfl | rfl
                all_goals
                  go_wp2
                  go_ret
                  exact ⟨true, rfl, (fun h => by cases h), rfl⟩
              · have n5 : ((k : Int) + 1 == (l.length : Int)) = false := by simp; omega
                have hk1l : k + 1 < l.length := by omega
                have n6 : (k : Int) + 1 < (l.length : Int) := by omega
                have n7 : 0 ≤ (k : Int) + 1 := by omega
                obtain ⟨g', o', hgo, hcy⟩ := HC.out (k + 1) hk1l
                cases hgo
                obtain ⟨y, hy⟩ : ∃ y, l.getD (k + 1) 0 = y := ⟨_, rfl⟩
                rw [hy] at hcy
                have HY := Lib.hid hy
                clear hy
                by_cases hy5 : y = 5 ∨ y = 2
                · have HY5 : Hid (y = 5 ∨ y = 2) := hy5
                  have HE : Hid (∀ j, j < k + 1 → isC (l.getD j 0) → j + 1 < l.length ∧ (l.getD (j + 1) 0 = 5 ∨ l.getD (j + 1) 0 = 2)) := fun j h hcj => by
                    by_cases hj : j = k
                    · subst hj; exact ⟨hk1l, by rw [HY.out]; exact HY5.out⟩
                    · exact H2.out j (by omega) hcj
                  rcases hc with rfl | rfl
                  all_goals rcases hy5 with rfl | rfl
                  all_goals
                    go_wp2
                    go_roundw
                    case rel => exact ⟨k + 1, by omega, by go_num, HE, by first | rfl | trivial⟩
                    case measure => simp [intOf]; omega
                · have m1 : (y != 5) = true := by simp; omega
                  have m2 : (y != 2) = true := by simp; omega
                  rcases hc with rfl | rfl
                  all_goals
                    go_wp2
                    go_ret
                    exact ⟨true, rfl, (fun h => by cases h), rfl⟩
            · have n1 : (x == 38) = false := by simp; omega
              have n2 : (x == 48) = false := by simp; omega
              go_wp2
              go_roundw
              case rel =>
                refine ⟨k + 1, by omega, by go_num, fun j h hcj => ?_, by first | rfl | trivial⟩
                by_cases hj : j = k
                · subst hj; rw [HX.out] at hcj; exact absurd hcj hc
                · exact H2.out j (by omega) hcj
              case measure => simp [intOf]; omega
          · obtain rfl : k = l.length := by omega
            go_wp2
            go_ret
            exact ⟨false, rfl, fun _ => HL2.out H1.out H2.out, rfl⟩
end Go.Proofs.Ytkcpgafafbjiaaa
