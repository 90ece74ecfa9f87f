/-
  Chapter 3: the reference's decoder, its parts.
-/
import Derived.Test.YtfcgjnmbbgioiaaUtf12
import Derived.Deep.DeepCutAuto
import Derived.Deep.CutBlock
import Derived.Deep.QuietTactic
import Derived.BigQuiet
namespace Go.Proofs.Ytfcgjnmbbgioiaa
open Go.RowKit
set_option linter.unusedVariables false
set_option linter.unusedSimpArgs false

set_option maxHeartbeats 1000000 in
theorem rsize_any (w : World) (c : Int) : Calls Try.prog 29 #[.int .u8 c] w fun e w' => e = .returned (.int .i64 (lenB c)) ∧ w' = w := by
  rcases (show c < 128 ∨ (128 ≤ c ∧ c < 194) ∨ (194 ≤ c ∧ c < 224) ∨ (224 ≤ c ∧ c < 240) ∨ (240 ≤ c ∧ c < 245) ∨ 245 ≤ c by omega) with h | ⟨h, h'⟩ | ⟨h, h'⟩ | ⟨h, h'⟩ | ⟨h, h'⟩ | h
  all_goals
    go_enter Try.func29, Try.ntmps29
    go_wp2
  all_goals go_ret
  all_goals (refine ⟨?_, rfl⟩; unfold lenB; show Ending.returned (Value.int .i64 _) = _; congr 2; (repeat' split) <;> omega)
set_option maxHeartbeats 1000000 in
theorem rnext_any (w : World) (f c a : Int) : Calls Try.prog 30 #[.int .u8 f, .int .i64 a, .int .u8 c] w fun e w' => e = .returned (.bool (folB f c a)) ∧ w' = w := by
  go_enter Try.func30, Try.ntmps30
  go_wp2
  all_goals go_ret
  all_goals (refine ⟨?_, rfl⟩; unfold folB; show Ending.returned (Value.bool _) = _; congr 2)
  all_goals (simp only [beq_iff_eq, beq_eq_false_iff_ne, ne_eq] at *; rw [Bool.eq_iff_iff]; simp only [Bool.and_eq_true, decide_eq_true_eq, Bool.false_eq_true, false_iff]; (repeat' split) <;> omega)

set_option maxHeartbeats 4000000 in
theorem number_2 (w : World) (g o cap : Nat) (a b : Int) (hc : 2 ≤ cap) (h0 : w.cell? ⟨g, o, none⟩ = some (.int .u8 a)) (h1 : w.cell? ⟨g, o + 1, none⟩ = some (.int .u8 b)) (ha : 0 ≤ a ∧ a ≤ 255) (hb : 0 ≤ b ∧ b ≤ 255) :
    Calls Try.prog 24 #[.slice (some ⟨g, o, none⟩) 2 cap] w fun e w' => e = .returned (.int .i32 (signR [a, b])) ∧ Chg w w' nob := by
  go_enter Try.func24, Try.ntmps24
  go_wp2_with fail
  go_quiet (fail)
  go_wp2
  go_ret
  refine ⟨?_, (Chg.refl w nob).drewN _⟩
  show Ending.returned (Value.int .i32 _) = _
  congr 2
  try (simp only [signR]; omega)
set_option maxHeartbeats 4000000 in
theorem number_3 (w : World) (g o cap : Nat) (a b c : Int) (hc : 3 ≤ cap) (h0 : w.cell? ⟨g, o, none⟩ = some (.int .u8 a)) (h1 : w.cell? ⟨g, o + 1, none⟩ = some (.int .u8 b)) (h2 : w.cell? ⟨g, o + 2, none⟩ = some (.int .u8 c)) (ha : 0 ≤ a ∧ a ≤ 255) (hb : 0 ≤ b ∧ b ≤ 255) (hc' : 0 ≤ c ∧ c ≤ 255) :
    Calls Try.prog 24 #[.slice (some ⟨g, o, none⟩) 3 cap] w fun e w' => e = .returned (.int .i32 (signR [a, b, c])) ∧ Chg w w' nob := by
  go_enter Try.func24, Try.ntmps24
  go_wp2_with fail
  go_quiet (fail)
  go_wp2
  go_ret
  refine ⟨?_, (Chg.refl w nob).drewN _⟩
  show Ending.returned (Value.int .i32 _) = _
  congr 2
  try (simp only [signR]; omega)
set_option maxHeartbeats 4000000 in
theorem number_4 (w : World) (g o cap : Nat) (a b c d : Int) (hc : 4 ≤ cap) (h0 : w.cell? ⟨g, o, none⟩ = some (.int .u8 a)) (h1 : w.cell? ⟨g, o + 1, none⟩ = some (.int .u8 b)) (h2 : w.cell? ⟨g, o + 2, none⟩ = some (.int .u8 c)) (h3 : w.cell? ⟨g, o + 3, none⟩ = some (.int .u8 d)) (ha : 0 ≤ a ∧ a ≤ 255) (hb : 0 ≤ b ∧ b ≤ 255) (hc' : 0 ≤ c ∧ c ≤ 255) (hd : 0 ≤ d ∧ d ≤ 255) :
    Calls Try.prog 24 #[.slice (some ⟨g, o, none⟩) 4 cap] w fun e w' => e = .returned (.int .i32 (signR [a, b, c, d])) ∧ Chg w w' nob := by
  go_enter Try.func24, Try.ntmps24
  go_wp2_with fail
  go_quiet (fail)
  go_wp2
  go_ret
  refine ⟨?_, (Chg.refl w nob).drewN _⟩
  show Ending.returned (Value.int .i32 _) = _
  congr 2
  try (simp only [signR]; omega)
set_option maxHeartbeats 4000000 in
theorem number_1 (w : World) (g o cap : Nat) (a : Int) (hc : 1 ≤ cap) (h0 : w.cell? ⟨g, o, none⟩ = some (.int .u8 a)) (ha : 0 ≤ a ∧ a ≤ 255) :
    Calls Try.prog 24 #[.slice (some ⟨g, o, none⟩) 1 cap] w fun e w' => e = .returned (.int .i32 (signR [a])) ∧ Chg w w' nob := by
  go_enter Try.func24, Try.ntmps24
  go_wp2
  go_ret
  exact ⟨rfl, Chg.refl w nob⟩
theorem number_any (w : World) (va : Value) (s : List Int) (ha : Rd w 1 va s.length (bytesV s)) (h0 : 1 ≤ s.length) (h1 : s.length ≤ 4) (hx : ∀ x ∈ s, 0 ≤ x ∧ x ≤ 255) :
    Calls Try.prog 24 #[va] w fun e w' => e = .returned (.int .i32 (signR s)) ∧ Chg w w' nob := by
  obtain ⟨ao, cap, rfl, hc, hl, hcell⟩ := ha
  match s, h0, h1, hx, hcell, hc with
  | [a], _, _, hx, hcell, hc =>
    obtain ⟨g, o, rfl, c0⟩ := hcell 0 (.int .u8 a) rfl
    exact number_1 w g o cap a hc c0 (hx a (by simp))
  | [a, b], _, _, hx, hcell, hc =>
    obtain ⟨g, o, rfl, c0⟩ := hcell 0 (.int .u8 a) rfl
    obtain ⟨g', o', e, c1⟩ := hcell 1 (.int .u8 b) rfl
    cases e
    exact number_2 w g o cap a b hc c0 c1 (hx a (by simp)) (hx b (by simp))
  | [a, b, c], _, _, hx, hcell, hc =>
    obtain ⟨g, o, rfl, c0⟩ := hcell 0 (.int .u8 a) rfl
    obtain ⟨g', o', e, c1⟩ := hcell 1 (.int .u8 b) rfl
    cases e
    obtain ⟨g', o', e, c2⟩ := hcell 2 (.int .u8 c) rfl
    cases e
    exact number_3 w g o cap a b c hc c0 c1 c2 (hx a (by simp)) (hx b (by simp)) (hx c (by simp))
  | [a, b, c, d], _, _, hx, hcell, hc =>
    obtain ⟨g, o, rfl, c0⟩ := hcell 0 (.int .u8 a) rfl
    obtain ⟨g', o', e, c1⟩ := hcell 1 (.int .u8 b) rfl
    cases e
    obtain ⟨g', o', e, c2⟩ := hcell 2 (.int .u8 c) rfl
    cases e
    obtain ⟨g', o', e, c3⟩ := hcell 3 (.int .u8 d) rfl
    cases e
    exact number_4 w g o cap a b c d hc c0 c1 c2 c3 (hx a (by simp)) (hx b (by simp)) (hx c (by simp)) (hx d (by simp))

set_option maxHeartbeats 4000000 in
theorem front_any (w : World) (va : Value) (R : List Int) (ha : Rd w 1 va R.length (bytesV R)) (h0 : R ≠ []) (hl : R.length ≤ 1000000) :
    Calls Try.prog 23 #[va] w fun e w' => ∃ k n : Nat, e = .returned (.tuple #[.int .i64 k, .int .i64 n]) ∧ Front R k n ∧ Chg w w' nob := by
  obtain ⟨ao, cap, rfl, hc, _, hcell⟩ := ha
  have hlen : 0 < R.length := by cases R with | nil => exact absurd rfl h0 | cons _ _ => simp
  obtain ⟨g, o, rfl, c0⟩ := hcell 0 (.int .u8 (R.getD 0 0)) (by simp [bytesV, List.getD, hlen])
  have hcc : ∀ k, k < R.length → w.cell? ⟨g, o + k, none⟩ = some (.int .u8 (R.getD k 0)) := fun k hk => by
    obtain ⟨g', o', e, h⟩ := hcell k (.int .u8 (R.getD k 0)) (by simp [bytesV, List.getD, hk])
    cases e
    exact h
  have HC := Lib.hid hcc
  have HH := Lib.hid (headD_get R)
  simp only [Nat.add_zero] at c0
  clear hcell hcc
  generalize hf : R.getD 0 0 = f at *
  clear hf
  obtain ⟨n, hn⟩ : ∃ n : Nat, (n : Int) = lenB f := Int.eq_ofNat_of_zero_le (lenB_le f).1 |>.imp fun _ h => h.symm
  have hn4 := (lenB_le f).2
  rw [← hn] at hn4
  have HN := Lib.hid hn
  have hl0 : (0 : Int) < (R.length : Int) := by omega
  go_enter Try.func23, Try.ntmps23
  go_wp2_with fail
  go_at_call 29
  refine (rsize_any w f).mono ?_
  rw [← hn]
  rintro e w' ⟨rfl, rfl⟩
  clear hn
  by_cases hn0 : n = 0
  · subst hn0
    go_wp2
    go_ret2
    exact ⟨1, 0, rfl, ⟨by rw [← HH.out]; exact HN.out, Nat.le_refl _, hlen, .inl ⟨rfl, rfl⟩⟩, Chg.refl _ _⟩
  · have hnp : ((n : Int) == 0) = false := by simp; exact hn0
    go_wp2_with fail
    go_loopw [5] (fun i wr => ∃ k : Nat, 1 ≤ k ∧ k ≤ n ∧ k ≤ R.length ∧ i = .int .i64 k ∧ Hid (∀ j, 0 < j → j < k → folB f (R.getD j 0) j = true) ∧ Hid (Chg w' wr nob)) (fun i _ => 4 - (intOf i).toNat)
    case atStart => exact ⟨1, Nat.le_refl _, by omega, hlen, rfl, (fun j h h' => by omega), Chg.refl _ _⟩
    case round =>
      obtain ⟨k, hk1, hkn, hkl, rfl, HF, HI⟩ := hrel
      have hc0 := HI.out.cell c0 id
      by_cases z1 : k < n
      · have y1 : (k : Int) < (n : Int) := by omega
        by_cases z2 : k < R.length
        · have y2 : (k : Int) < (R.length : Int) := by omega
          have hck := HI.out.cell (HC.out k z2) id
          obtain ⟨c, hc'⟩ : ∃ c, R.getD k 0 = c := ⟨_, rfl⟩
          rw [hc'] at hck
          have HCK := Lib.hid hc'
          clear hc'
          obtain ⟨bb, hb⟩ : ∃ bb, folB f c k = bb := ⟨_, rfl⟩
          have HBB := Lib.hid hb
          clear hb
          go_wp2_with fail
          refine wp_one [12, 17] [18] [] [0, 1, 2, 3, 4, 5, 6, 7, 8, 9, 10, 11, 12, 13, 14, 15, 16, 17, 18, 19] rfl (by kernel_rfl) (fun _ _ _ _ _ h => h) ?_; simp only [List.map_cons, List.map_nil, List.getElem?_toArray, List.getElem?_cons_zero, List.getElem?_cons_succ]
          (repeat (first | (apply can0; (· rfl); (· rfl); (· (intro w'; first | (go_simp; with_reducible rfl) | (go_simp; done))); simp only [Act.put, List.setIfInBounds_toArray, List.set_cons_zero, List.set_cons_succ]) | (apply can1; (· rfl); (· rfl); (· (first | (go_simp; with_reducible rfl) | (go_simp; done))); simp only [Act.put, List.setIfInBounds_toArray, List.set_cons_zero, List.set_cons_succ]) | (apply canN; (· rfl); (· rfl); simp only [Act.put, List.setIfInBounds_toArray, List.set_cons_zero, List.set_cons_succ]) | (apply canN1; (· rfl); (· rfl); simp only [Act.put, List.setIfInBounds_toArray, List.set_cons_zero, List.set_cons_succ]) | (apply can0; (· rfl); (· (go_simp; done)); (· (intro w'; first | (go_simp; with_reducible rfl) | (go_simp; done))); simp only [Act.put, List.setIfInBounds_toArray, List.set_cons_zero, List.set_cons_succ]) | (apply can1; (· rfl); (· (go_simp; done)); (· (first | (go_simp; with_reducible rfl) | (go_simp; done))); simp only [Act.put, List.setIfInBounds_toArray, List.set_cons_zero, List.set_cons_succ]) | (apply canN; (· rfl); (· (go_simp; done)); simp only [Act.put, List.setIfInBounds_toArray, List.set_cons_zero, List.set_cons_succ]) | (apply canN1; (· rfl); (· (go_simp; done)); simp only [Act.put, List.setIfInBounds_toArray, List.set_cons_zero, List.set_cons_succ])))
          refine canW rfl [] rfl (fun K hK => ?_)
          go_simp
          go_at_call 30
          refine (rnext_any _ f c k).mono ?_
          rw [HBB.out]
          rintro e w'' ⟨rfl, rfl⟩
          (refine hK _ _ (fun u hu => by cases hu) ?_; clear hK K; try simp only [Act.put, List.setIfInBounds_toArray, List.set_cons_zero, List.set_cons_succ])
          (repeat (first | (apply can0; (· rfl); (· rfl); (· (intro w'; first | (go_simp; with_reducible rfl) | (go_simp; done))); simp only [Act.put, List.setIfInBounds_toArray, List.set_cons_zero, List.set_cons_succ]) | (apply can1; (· rfl); (· rfl); (· (first | (go_simp; with_reducible rfl) | (go_simp; done))); simp only [Act.put, List.setIfInBounds_toArray, List.set_cons_zero, List.set_cons_succ]) | (apply canN; (· rfl); (· rfl); simp only [Act.put, List.setIfInBounds_toArray, List.set_cons_zero, List.set_cons_succ]) | (apply canN1; (· rfl); (· rfl); simp only [Act.put, List.setIfInBounds_toArray, List.set_cons_zero, List.set_cons_succ]) | (apply can0; (· rfl); (· (go_simp; done)); (· (intro w'; first | (go_simp; with_reducible rfl) | (go_simp; done))); simp only [Act.put, List.setIfInBounds_toArray, List.set_cons_zero, List.set_cons_succ]) | (apply can1; (· rfl); (· (go_simp; done)); (· (first | (go_simp; with_reducible rfl) | (go_simp; done))); simp only [Act.put, List.setIfInBounds_toArray, List.set_cons_zero, List.set_cons_succ]) | (apply canN; (· rfl); (· (go_simp; done)); simp only [Act.put, List.setIfInBounds_toArray, List.set_cons_zero, List.set_cons_succ]) | (apply canN1; (· rfl); (· (go_simp; done)); simp only [Act.put, List.setIfInBounds_toArray, List.set_cons_zero, List.set_cons_succ])))
          refine canE ?_
          cases bb
          · go_wp2
            go_ret2
            exact ⟨k, n, rfl, ⟨by rw [← HH.out]; exact HN.out, hk1, hkl, .inr ⟨hkn, by rw [← HH.out]; exact HF.out, .inr (.inr (by rw [← HH.out, HCK.out]; exact HBB.out))⟩⟩, HI.out.drew⟩
          · go_wp2
            go_roundw
            case rel =>
              refine ⟨k + 1, by omega, by omega, by omega, by go_num, fun j h1 h2 => ?_, HI.out.drew⟩
              by_cases hj : j = k
              · subst hj; rw [HCK.out]; exact HBB.out
              · exact HF.out j h1 (by omega)
            case measure => simp [intOf]; omega
        · have y2 : ¬ (k : Int) < (R.length : Int) := by omega
          go_wp2_with fail
          refine wp_one [12, 17] [18] [] [0, 1, 2, 3, 4, 5, 6, 7, 8, 9, 10, 11, 12, 13, 14, 15, 16, 17, 18, 19] rfl (by kernel_rfl) (fun _ _ _ _ _ h => h) ?_; simp only [List.map_cons, List.map_nil, List.getElem?_toArray, List.getElem?_cons_zero, List.getElem?_cons_succ]
          (repeat (first | (apply can0; (· rfl); (· rfl); (· (intro w'; first | (go_simp; with_reducible rfl) | (go_simp; done))); simp only [Act.put, List.setIfInBounds_toArray, List.set_cons_zero, List.set_cons_succ]) | (apply can1; (· rfl); (· rfl); (· (first | (go_simp; with_reducible rfl) | (go_simp; done))); simp only [Act.put, List.setIfInBounds_toArray, List.set_cons_zero, List.set_cons_succ]) | (apply canN; (· rfl); (· rfl); simp only [Act.put, List.setIfInBounds_toArray, List.set_cons_zero, List.set_cons_succ]) | (apply canN1; (· rfl); (· rfl); simp only [Act.put, List.setIfInBounds_toArray, List.set_cons_zero, List.set_cons_succ]) | (apply can0; (· rfl); (· (go_simp; done)); (· (intro w'; first | (go_simp; with_reducible rfl) | (go_simp; done))); simp only [Act.put, List.setIfInBounds_toArray, List.set_cons_zero, List.set_cons_succ]) | (apply can1; (· rfl); (· (go_simp; done)); (· (first | (go_simp; with_reducible rfl) | (go_simp; done))); simp only [Act.put, List.setIfInBounds_toArray, List.set_cons_zero, List.set_cons_succ]) | (apply canN; (· rfl); (· (go_simp; done)); simp only [Act.put, List.setIfInBounds_toArray, List.set_cons_zero, List.set_cons_succ]) | (apply canN1; (· rfl); (· (go_simp; done)); simp only [Act.put, List.setIfInBounds_toArray, List.set_cons_zero, List.set_cons_succ])))
          refine canM rfl [] rfl rfl (fun u hu => by cases hu) ?_
          (repeat (first | (apply can0; (· rfl); (· rfl); (· (intro w'; first | (go_simp; with_reducible rfl) | (go_simp; done))); simp only [Act.put, List.setIfInBounds_toArray, List.set_cons_zero, List.set_cons_succ]) | (apply can1; (· rfl); (· rfl); (· (first | (go_simp; with_reducible rfl) | (go_simp; done))); simp only [Act.put, List.setIfInBounds_toArray, List.set_cons_zero, List.set_cons_succ]) | (apply canN; (· rfl); (· rfl); simp only [Act.put, List.setIfInBounds_toArray, List.set_cons_zero, List.set_cons_succ]) | (apply canN1; (· rfl); (· rfl); simp only [Act.put, List.setIfInBounds_toArray, List.set_cons_zero, List.set_cons_succ]) | (apply can0; (· rfl); (· (go_simp; done)); (· (intro w'; first | (go_simp; with_reducible rfl) | (go_simp; done))); simp only [Act.put, List.setIfInBounds_toArray, List.set_cons_zero, List.set_cons_succ]) | (apply can1; (· rfl); (· (go_simp; done)); (· (first | (go_simp; with_reducible rfl) | (go_simp; done))); simp only [Act.put, List.setIfInBounds_toArray, List.set_cons_zero, List.set_cons_succ]) | (apply canN; (· rfl); (· (go_simp; done)); simp only [Act.put, List.setIfInBounds_toArray, List.set_cons_zero, List.set_cons_succ]) | (apply canN1; (· rfl); (· (go_simp; done)); simp only [Act.put, List.setIfInBounds_toArray, List.set_cons_zero, List.set_cons_succ])))
          refine canE ?_
          go_wp2
          go_ret2
          exact ⟨k, n, rfl, ⟨by rw [← HH.out]; exact HN.out, hk1, hkl, .inr ⟨hkn, by rw [← HH.out]; exact HF.out, .inr (.inl (by omega))⟩⟩, HI.out.drew⟩
      · have y1 : ¬ (k : Int) < (n : Int) := by omega
        go_wp2_with fail
        refine wp_one [12, 17] [18] [] [0, 1, 2, 3, 4, 5, 6, 7, 8, 9, 10, 11, 12, 13, 14, 15, 16, 17, 18, 19] rfl (by kernel_rfl) (fun _ _ _ _ _ h => h) ?_; simp only [List.map_cons, List.map_nil, List.getElem?_toArray, List.getElem?_cons_zero, List.getElem?_cons_succ]
        (repeat (first | (apply can0; (· rfl); (· rfl); (· (intro w'; first | (go_simp; with_reducible rfl) | (go_simp; done))); simp only [Act.put, List.setIfInBounds_toArray, List.set_cons_zero, List.set_cons_succ]) | (apply can1; (· rfl); (· rfl); (· (first | (go_simp; with_reducible rfl) | (go_simp; done))); simp only [Act.put, List.setIfInBounds_toArray, List.set_cons_zero, List.set_cons_succ]) | (apply canN; (· rfl); (· rfl); simp only [Act.put, List.setIfInBounds_toArray, List.set_cons_zero, List.set_cons_succ]) | (apply canN1; (· rfl); (· rfl); simp only [Act.put, List.setIfInBounds_toArray, List.set_cons_zero, List.set_cons_succ]) | (apply can0; (· rfl); (· (go_simp; done)); (· (intro w'; first | (go_simp; with_reducible rfl) | (go_simp; done))); simp only [Act.put, List.setIfInBounds_toArray, List.set_cons_zero, List.set_cons_succ]) | (apply can1; (· rfl); (· (go_simp; done)); (· (first | (go_simp; with_reducible rfl) | (go_simp; done))); simp only [Act.put, List.setIfInBounds_toArray, List.set_cons_zero, List.set_cons_succ]) | (apply canN; (· rfl); (· (go_simp; done)); simp only [Act.put, List.setIfInBounds_toArray, List.set_cons_zero, List.set_cons_succ]) | (apply canN1; (· rfl); (· (go_simp; done)); simp only [Act.put, List.setIfInBounds_toArray, List.set_cons_zero, List.set_cons_succ])))
        refine canM rfl [] rfl rfl (fun u hu => by cases hu) ?_
        (repeat (first | (apply can0; (· rfl); (· rfl); (· (intro w'; first | (go_simp; with_reducible rfl) | (go_simp; done))); simp only [Act.put, List.setIfInBounds_toArray, List.set_cons_zero, List.set_cons_succ]) | (apply can1; (· rfl); (· rfl); (· (first | (go_simp; with_reducible rfl) | (go_simp; done))); simp only [Act.put, List.setIfInBounds_toArray, List.set_cons_zero, List.set_cons_succ]) | (apply canN; (· rfl); (· rfl); simp only [Act.put, List.setIfInBounds_toArray, List.set_cons_zero, List.set_cons_succ]) | (apply canN1; (· rfl); (· rfl); simp only [Act.put, List.setIfInBounds_toArray, List.set_cons_zero, List.set_cons_succ]) | (apply can0; (· rfl); (· (go_simp; done)); (· (intro w'; first | (go_simp; with_reducible rfl) | (go_simp; done))); simp only [Act.put, List.setIfInBounds_toArray, List.set_cons_zero, List.set_cons_succ]) | (apply can1; (· rfl); (· (go_simp; done)); (· (first | (go_simp; with_reducible rfl) | (go_simp; done))); simp only [Act.put, List.setIfInBounds_toArray, List.set_cons_zero, List.set_cons_succ]) | (apply canN; (· rfl); (· (go_simp; done)); simp only [Act.put, List.setIfInBounds_toArray, List.set_cons_zero, List.set_cons_succ]) | (apply canN1; (· rfl); (· (go_simp; done)); simp only [Act.put, List.setIfInBounds_toArray, List.set_cons_zero, List.set_cons_succ])))
        refine canE ?_
        go_wp2
        go_ret2
        exact ⟨k, n, rfl, ⟨by rw [← HH.out]; exact HN.out, hk1, hkl, .inr ⟨hkn, by rw [← HH.out]; exact HF.out, .inl (by omega)⟩⟩, HI.out.drew⟩

theorem size_al (w : World) (o : Obj) : (w.alloc o).heap.size = w.heap.size + 1 := Array.size_push _
/-- Bytes behind bytes of one's own: what the append wants of the second. -/
def NilOk (v : Value) : Prop := ∀ n c, v = .slice none n c → c = 0
theorem Own.nilOk {w : World} {e : TypeId} {size n : Nat} {v : Value} {xs : List Value} (h : Own w e size v n xs) : NilOk v := fun m c hv => by
  obtain ⟨ao, cap, rfl, _, _, h1, _⟩ := h.form
  cases hv
  exact (h1 rfl).2
theorem NilOk.cut {a : Option Addr} {n c l m : Nat} (h : NilOk (.slice a n c)) : NilOk (.slice (addS a c l) m (c - l)) := fun m' c' hv => by
  cases a with
  | none =>
    have h0 := h n c rfl
    subst h0
    have h1 : c' = 0 - l := by injection hv with _ _ e; exact e.symm
    omega
  | some x => exfalso; unfold addS at hv; split at hv <;> cases hv
theorem Rd.news {w : World} {ao : Option Addr} {n cap : Nat} {xs : List Int} (hr : Rd w 1 (.slice ao n cap) n (bytesV xs)) : ∀ a, ao = some a → ∀ j u, (bytesV xs)[j]? = some u → w.cell? (a.add j) = some u := fun a ha j u hu => by
  obtain ⟨b', o', h1, h2⟩ := hr.cell hu
  rw [ha] at h1
  cases h1
  rw [Addr.add_lit]; exact h2
theorem bytes_one (xs : List Int) : ∀ u ∈ bytesV xs, u.oneCell' = true := fun u hu => by obtain ⟨x, _, rfl⟩ := List.mem_map.1 hu; rfl
theorem Rd.nil0 {w : World} {ao : Option Addr} {cap : Nat} {xs : List Int} (hr : Rd w 1 (.slice ao xs.length cap) xs.length (bytesV xs)) (hn : NilOk (.slice ao xs.length cap)) : ao = none → xs.length = 0 ∧ cap = 0 := fun h => by
  subst h
  refine ⟨?_, hn _ _ rfl⟩
  cases xs with
  | nil => rfl
  | cons x t => obtain ⟨_, _, h, _⟩ := hr.cell (j := 0) (u := .int .u8 x) rfl; cases h

/-- A copy of bytes. -/
theorem copy_any (w : World) (va : Value) (xs : List Int) (ha : Rd w 1 va xs.length (bytesV xs)) (hn : NilOk va) (hl : xs.length ≤ 1000000) :
    Calls Try.prog 22 #[va] w fun e w' => ∃ v, e = .returned v ∧ Own w' 5 1 v xs.length (bytesV xs) ∧ Chg w w' nob ∧ ∀ k, blkOf v k → w.heap.size ≤ k := by
  obtain ⟨ao, cap, rfl, hc, hlen⟩ := ha.form
  have hr : Rd (w.alloc (.cells #[] 5)) 1 (.slice ao xs.length cap) xs.length (bytesV xs) := ha.alloc _
  have hnews := Lib.hid hr.news
  have hnil := Lib.hid (ha.nil0 hn)
  have hone := Lib.hid (bytes_one xs)
  have hown : Own (w.alloc (.cells #[] 5)) 5 1 (.slice (some ⟨w.heap.size, 0, none⟩) 0 0) 0 [] := Own.lit w 5 #[] (by decide)
  clear hr ha hn
  go_enter Try.func22, Try.ntmps22
  go_wp2_with (at_builtin; refine wpList_app rfl (.tmp 3) (.tmp 4) 22 rfl 5 (.int .u8 0) 1 1 i_byte u_bytes rfl (by decide) _ 0 _ rfl hown ao xs.length cap (bytesV xs) rfl hnil.out (by simp [bytesV]) hnews.out hone.out (by unfold maxLen; omega) (by omega) ?_)
  intro v5 w5 ho5 hch5 hfo5
  go_wp2
  go_ret
  refine ⟨_, rfl, by simpa using ho5, ((Chg.refl w nob).alloc _).trans hch5 (fun i hi h => ?_), fun k hk => ?_⟩
  · cases h; simp at hi
  · rcases hfo5 k hk with h | h
    · cases h; exact Nat.le_refl _
    · have := size_al w (.cells #[] 5); omega
end Go.Proofs.Ytfcgjnmbbgioiaa
