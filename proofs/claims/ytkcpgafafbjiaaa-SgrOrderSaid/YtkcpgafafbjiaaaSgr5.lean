/-
  Chapter 9: first.
-/
import Derived.Test.YtkcpgafafbjiaaaSgr4
namespace Go.Proofs.Ytkcpgafafbjiaaa
open Go.RowKit
set_option linter.unusedVariables false
set_option linter.unusedSimpArgs false

set_option maxHeartbeats 4000000 in
theorem ints_eq (w : World) (va vb : Value) (xs ys : List Int) (ha : Rd w 1 va xs.length (intI xs)) (hb : Rd w 1 vb ys.length (intI ys)) (hl : xs.length ≤ 140737488351232) (hl2 : ys.length ≤ 140737488351232) :
    Calls Try.prog 12 #[va, vb] w fun e w' => e = .returned (.bool (decide (xs = ys))) ∧ Chg w w' nob := by
  obtain ⟨a1, c1, rfl, hn1, _, hx1⟩ := ha
  obtain ⟨a2, c2, rfl, hn2, _, hx2⟩ := hb
  by_cases hlen : xs.length = ys.length
  · have hcA : ∀ wr, Chg w wr nob → ∀ j u, (intI xs)[j]? = some u → ∃ b o, a1 = some ⟨b, o, none⟩ ∧ wr.cell? ⟨b, o + j, none⟩ = some u := fun wr hch j u hu => by
      obtain ⟨b, o, h1, h2⟩ := hx1 j u hu
      exact ⟨b, o, h1, hch.cell h2 id⟩
    have hcB : ∀ wr, Chg w wr nob → ∀ j u, (intI ys)[j]? = some u → ∃ b o, a2 = some ⟨b, o, none⟩ ∧ wr.cell? ⟨b, o + j, none⟩ = some u := fun wr hch j u hu => by
      obtain ⟨b, o, h1, h2⟩ := hx2 j u hu
      exact ⟨b, o, h1, hch.cell h2 id⟩
    have HA := Lib.hid hcA
    have HB := Lib.hid hcB
    clear hcA hcB hx1 hx2
    have HL := Lib.hid hlen
    have hb1 : (((xs.length : Nat) : Int) != (ys.length : Nat)) = false := by rw [hlen]; simp
    rw [hlen] at hl hn1
    clear hlen
    go_enter Try.func12, Try.ntmps12
    go_wp2
    go_loopw [5] (fun i wr => ∃ k : Nat, k ≤ xs.length ∧ i = .int .i64 k ∧ Hid (xs.take k = ys.take k) ∧ Chg w wr nob) (fun i _ => xs.length - (intOf i).toNat)
    case atStart => exact ⟨0, Nat.zero_le _, rfl, rfl, Chg.refl _ _⟩
    case round =>
      obtain ⟨k, hk, rfl, HT, hch⟩ := hrel
      by_cases hkl : k < xs.length
      · have hky : k < ys.length := by rw [← HL.out]; exact hkl
        obtain ⟨b1, o1, rfl, hc1⟩ := HA.out wr hch k (.int .i64 (xs.getD k 0)) (by simp [intI, List.getD, hkl])
        obtain ⟨b2, o2, rfl, hc2⟩ := HB.out wr hch k (.int .i64 (ys.getD k 0)) (by simp [intI, List.getD, hky])
        have hki : (k : Int) < (xs.length : Int) := by omega
        have hkj : (k : Int) < (ys.length : Int) := by omega
        obtain ⟨x, hx⟩ : ∃ x, xs.getD k 0 = x := ⟨_, rfl⟩
        obtain ⟨y, hy⟩ : ∃ y, ys.getD k 0 = y := ⟨_, rfl⟩
        rw [hx] at hc1
        rw [hy] at hc2
        have HX := Lib.hid hx
        have HY := Lib.hid hy
        clear hx hy
        by_cases hxy : x = y
        · subst hxy
          go_wp2
          refine wp_one [3, 7] [] [] [0, 1, 2, 3, 4, 5, 6, 7, 8] rfl (by kernel_rfl) (fun _ _ _ _ _ h => h) ?_; simp only [List.map_cons, List.map_nil, List.getElem?_toArray, List.getElem?_cons_zero, List.getElem?_cons_succ]
          (repeat (first | (apply can0; (· rfl); (· rfl); (· (intro w'; first | (go_simp; with_reducible rfl) | (go_simp; done))); simp only [Act.put, List.setIfInBounds_toArray, List.set_cons_zero, List.set_cons_succ]) | (apply can1; (· rfl); (· rfl); (· (first | (go_simp; with_reducible rfl) | (go_simp; done))); simp only [Act.put, List.setIfInBounds_toArray, List.set_cons_zero, List.set_cons_succ]) | (apply canN; (· rfl); (· rfl); simp only [Act.put, List.setIfInBounds_toArray, List.set_cons_zero, List.set_cons_succ]) | (apply canN1; (· rfl); (· rfl); simp only [Act.put, List.setIfInBounds_toArray, List.set_cons_zero, List.set_cons_succ]) | (apply can0; (· rfl); (· (go_simp; done)); (· (intro w'; first | (go_simp; with_reducible rfl) | (go_simp; done))); simp only [Act.put, List.setIfInBounds_toArray, List.set_cons_zero, List.set_cons_succ]) | (apply can1; (· rfl); (· (go_simp; done)); (· (first | (go_simp; with_reducible rfl) | (go_simp; done))); simp only [Act.put, List.setIfInBounds_toArray, List.set_cons_zero, List.set_cons_succ]) | (apply canN; (· rfl); (· (go_simp; done)); simp only [Act.put, List.setIfInBounds_toArray, List.set_cons_zero, List.set_cons_succ]) | (apply canN1; (· rfl); (· (go_simp; done)); simp only [Act.put, List.setIfInBounds_toArray, List.set_cons_zero, List.set_cons_succ])))
          refine canE ?_
          go_wp2
          go_roundw
          case rel =>
            refine ⟨k + 1, by omega, by go_num, ?_, hch.drew⟩
            unfold Hid
            rw [List.take_succ_eq_append_getElem hkl, List.take_succ_eq_append_getElem hky, HT.out]
            have h1 := HX.out
            have h2 := HY.out
            simp [List.getD, hkl, hky] at h1 h2
            rw [h1, h2]
          case measure => simp [intOf]; omega
        · have hb2 : (x != y) = true := by simpa using hxy
          go_wp2
          refine wp_one [3, 7] [] [] [0, 1, 2, 3, 4, 5, 6, 7, 8] rfl (by kernel_rfl) (fun _ _ _ _ _ h => h) ?_; simp only [List.map_cons, List.map_nil, List.getElem?_toArray, List.getElem?_cons_zero, List.getElem?_cons_succ]
          (repeat (first | (apply can0; (· rfl); (· rfl); (· (intro w'; first | (go_simp; with_reducible rfl) | (go_simp; done))); simp only [Act.put, List.setIfInBounds_toArray, List.set_cons_zero, List.set_cons_succ]) | (apply can1; (· rfl); (· rfl); (· (first | (go_simp; with_reducible rfl) | (go_simp; done))); simp only [Act.put, List.setIfInBounds_toArray, List.set_cons_zero, List.set_cons_succ]) | (apply canN; (· rfl); (· rfl); simp only [Act.put, List.setIfInBounds_toArray, List.set_cons_zero, List.set_cons_succ]) | (apply canN1; (· rfl); (· rfl); simp only [Act.put, List.setIfInBounds_toArray, List.set_cons_zero, List.set_cons_succ]) | (apply can0; (· rfl); (· (go_simp; done)); (· (intro w'; first | (go_simp; with_reducible rfl) | (go_simp; done))); simp only [Act.put, List.setIfInBounds_toArray, List.set_cons_zero, List.set_cons_succ]) | (apply can1; (· rfl); (· (go_simp; done)); (· (first | (go_simp; with_reducible rfl) | (go_simp; done))); simp only [Act.put, List.setIfInBounds_toArray, List.set_cons_zero, List.set_cons_succ]) | (apply canN; (· rfl); (· (go_simp; done)); simp only [Act.put, List.setIfInBounds_toArray, List.set_cons_zero, List.set_cons_succ]) | (apply canN1; (· rfl); (· (go_simp; done)); simp only [Act.put, List.setIfInBounds_toArray, List.set_cons_zero, List.set_cons_succ])))
          refine canE ?_
          go_wp2
          go_ret
          refine ⟨?_, hch.drew⟩
          have : xs ≠ ys := fun h => hxy (by rw [← HX.out, ← HY.out, h])
          simp [this]
      · obtain rfl : k = xs.length := by omega
        go_wp2
        go_ret
        refine ⟨?_, hch⟩
        have h := HT.out
        rw [List.take_length, HL.out, List.take_length] at h
        simp [h]
  · have hb1 : ((xs.length : Int) = (ys.length : Int)) = False := by simp; omega
    clear hx1 hx2
    go_enter Try.func12, Try.ntmps12
    go_wp2
    go_ret
    have hd : decide (xs = ys) = false := by simp only [decide_eq_false_iff_not]; intro h; exact hlen (by rw [h])
    exact ⟨by rw [hd]; rfl, Chg.refl _ _⟩

theorem f1 : applyF (0, 0, 0) [1, 31] = (1, 2, 0) := by decide
theorem f2 : applyF (9, 0, 0) [] = (0, 0, 0) := by decide
theorem f3 : paramsF 1 0 5 = [0, 1, 48, 5, 4] := by decide
theorem f4 : applyF (0, 0, 0) [48, 2, 1, 2, 3] = (0, 0, 16843267) := by decide
theorem nil_rd (w : World) : Rd w 1 (.slice none 0 0) ([] : List Int).length (intI []) := ⟨none, 0, rfl, Nat.le_refl _, rfl, fun j u hu => by simp [intI] at hu⟩

set_option maxRecDepth 100000 in
set_option maxHeartbeats 8000000 in
theorem sfirst_any (w : World) : Calls Try.prog 6 #[] w fun e w' => e = .returned (.bool true) ∧ Chg w w' nob := by
  go_enter Try.func6, Try.ntmps6
  go_wp2_with fail
  go_at_call 9
  refine (apply_any _ 0 0 0 _ [1, 31] (Own.lit w 3 #[.int .i64 1, .int .i64 31] (by simp)).rd (by decide) (by decide)).mono ?_
  rw [f1]
  rintro e w1 ⟨rfl, h1⟩
  have H1 := Lib.hid (((Chg.refl w nob).alloc _).trans h1 fun _ _ h => h)
  clear h1
  go_wp2_with fail
  go_at_call 9
  refine (apply_any _ 9 0 0 _ [] (nil_rd _) (by simp) (by simp)).mono ?_
  rw [f2]
  rintro e w2 ⟨rfl, h2⟩
  have H2 := Lib.hid (H1.out.trans h2 fun _ _ h => h)
  clear h2 H1
  go_wp2_with fail
  go_at_call 8
  refine (params_any _ 1 0 5).mono ?_
  rw [f3]
  rintro e w3 ⟨v, rfl, h3⟩
  have H3 := Lib.hid (show Own w3 3 1 v 5 (intI [0, 1, 48, 5, 4]) ∧ Chg w w3 nob from ⟨h3.1, H2.out.trans h3.2.1 fun _ _ h => h⟩)
  clear h3 H2
  go_wp2_with fail
  go_at_call 12
  refine (ints_eq (w3.alloc _) v _ [0, 1, 48, 5, 4] [0, 1, 48, 5, 4] (H3.out.1.kept ((Chg.refl w3 nob).alloc _) (fun _ _ => id)).rd (Own.lit w3 3 #[.int .i64 0, .int .i64 1, .int .i64 48, .int .i64 5, .int .i64 4] (by simp)).rd (by decide) (by decide)).mono ?_
  rintro e w4 ⟨rfl, h4⟩
  have H4 := Lib.hid ((H3.out.2.alloc _).trans h4 fun _ _ h => h)
  clear h4 H3
  go_wp2_with fail
  go_at_call 9
  refine (apply_any _ 0 0 0 _ [48, 2, 1, 2, 3] (Own.lit w4 3 #[.int .i64 48, .int .i64 2, .int .i64 1, .int .i64 2, .int .i64 3] (by simp)).rd (by decide) (by decide)).mono ?_
  rw [f4]
  rintro e w5 ⟨rfl, h5⟩
  go_wp2
  go_ret
  exact ⟨rfl, (H4.out.alloc _).trans h5 fun _ _ h => h⟩
end Go.Proofs.Ytkcpgafafbjiaaa
