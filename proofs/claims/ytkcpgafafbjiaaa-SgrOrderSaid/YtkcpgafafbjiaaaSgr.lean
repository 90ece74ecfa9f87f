/-
  Chapter 9: what one number asks for.
-/
import Derived.Test.YtkcpgafafbjiaaaK
import Derived.Test.YtkcpgafafbjiaaaC
import Derived.Deep.DeepCutAuto
import Derived.Deep.CutBlock
import Derived.Lib.EndianBits
import Derived.Handy
namespace Go.Proofs.Ytkcpgafafbjiaaa
open Go.RowKit
set_option linter.unusedVariables false
set_option linter.unusedSimpArgs false

def intI (l : List Int) : List Value := l.map (Value.int .i64)
/-- The flag that a number sets. -/
def flagF (n : Int) : Int := if n = 1 then 1 else if n = 2 then 2 else if n = 3 then 4 else if n = 4 then 8 else if n = 5 then 16 else if n = 7 then 32 else if n = 8 then 64 else if n = 9 then 128 else 0
/-- The flags that a number takes away. -/
def clearF (n : Int) : Int := if n = 22 then 3 else if (23 ≤ n ∧ n ≤ 25) ∨ (27 ≤ n ∧ n ≤ 29) then flagF (n - 20) else 0
/-- The colour that a number names. -/
def colF (n f b : Int) : Int × Bool := if f ≤ n ∧ n < f + 8 then (1 + n - f, true) else if b ≤ n ∧ n < b + 8 then (9 + n - b, true) else if n = f + 9 then (0, true) else (0, false)

set_option maxHeartbeats 4000000 in
theorem flag_any (w : World) (n : Int) (hb : -9223372036854775808 ≤ n ∧ n ≤ 9223372036854775807) : Calls Try.prog 14 #[.int .i64 n] w fun e w' => e = .returned (.int .i64 (flagF n)) ∧ w' = w := by
  rcases (show n = 1 ∨ n = 2 ∨ n = 3 ∨ n = 4 ∨ n = 5 ∨ n = 7 ∨ n = 8 ∨ n = 9 ∨ n < 1 ∨ n = 6 ∨ 9 < n by omega) with rfl | rfl | rfl | rfl | rfl | rfl | rfl | rfl | h | rfl | h
  all_goals
    go_enter Try.func14, Try.ntmps14
    go_wp2
    go_ret
  all_goals first
    | exact ⟨rfl, rfl⟩
    | (refine ⟨?_, rfl⟩; show Ending.returned (Value.int .i64 _) = _; congr 2; unfold flagF; (repeat' split) <;> omega)
set_option maxHeartbeats 4000000 in
theorem cleared_any (w : World) (n : Int) (hb : -9223372036854775808 ≤ n ∧ n ≤ 9223372036854775807) : Calls Try.prog 18 #[.int .i64 n] w fun e w' => e = .returned (.int .i64 (clearF n)) ∧ w' = w := by
  rcases (show n = 22 ∨ (23 ≤ n ∧ n ≤ 25) ∨ (27 ≤ n ∧ n ≤ 29) ∨ n < 22 ∨ n = 26 ∨ 29 < n by omega) with rfl | ⟨h, h'⟩ | ⟨h, h'⟩ | h | rfl | h
  · go_enter Try.func18, Try.ntmps18
    go_wp2
    go_ret
    exact ⟨rfl, rfl⟩
  · have hc : clearF n = flagF (n - 20) := by unfold clearF; rw [if_neg (by omega), if_pos (by omega)]
    have HC := Lib.hid hc
    clear hc
    go_enter Try.func18, Try.ntmps18
    go_wp2_with fail
    go_at_call 14
    refine (flag_any w (n - 20) (by omega)).mono ?_
    rintro e w' ⟨rfl, rfl⟩
    go_wp2
    go_ret
    exact ⟨by rw [HC.out]; rfl, rfl⟩
  · have hc : clearF n = flagF (n - 20) := by unfold clearF; rw [if_neg (by omega), if_pos (by omega)]
    have HC := Lib.hid hc
    clear hc
    have h2 : 25 < n := by omega
    go_enter Try.func18, Try.ntmps18
    go_wp2_with fail
    go_at_call 14
    refine (flag_any w (n - 20) (by omega)).mono ?_
    rintro e w' ⟨rfl, rfl⟩
    go_wp2
    go_ret
    exact ⟨by rw [HC.out]; rfl, rfl⟩
  all_goals
    have HC : Hid (clearF _ = 0) := Lib.hid (show clearF (by first | exact n | exact 26) = 0 by unfold clearF; rw [if_neg (by omega), if_neg (by omega)])
    go_enter Try.func18, Try.ntmps18
    go_wp2
    go_ret
    exact ⟨by rw [HC.out]; rfl, rfl⟩
set_option maxHeartbeats 4000000 in
theorem colour_any (w : World) (n f b : Int) (hb : -9223372036854775808 ≤ n ∧ n ≤ 9223372036854775807) (hf : 0 ≤ f ∧ f ≤ 1000) (hb' : 0 ≤ b ∧ b ≤ 1000) (hn : 0 ≤ n) :
    Calls Try.prog 19 #[.int .i64 n, .int .i64 f, .int .i64 b] w fun e w' => e = .returned (.tuple #[.int .i64 (colF n f b).1, .bool (colF n f b).2]) ∧ w' = w := by
  rcases (show (f ≤ n ∧ n < f + 8) ∨ ((n < f ∨ f + 8 ≤ n) ∧ b ≤ n ∧ n < b + 8) ∨ ((n < f ∨ f + 8 ≤ n) ∧ (n < b ∨ b + 8 ≤ n) ∧ n = f + 9) ∨ ((n < f ∨ f + 8 ≤ n) ∧ (n < b ∨ b + 8 ≤ n) ∧ n ≠ f + 9) by omega) with ⟨h1, h2⟩ | ⟨h1, h2, h3⟩ | ⟨h1, h2, h3⟩ | ⟨h1, h2, h3⟩
  · have hc : Hid (colF n f b = (1 + n - f, true)) := Lib.hid (by unfold colF; rw [if_pos ⟨h1, h2⟩])
    rw [hc.out]
    go_enter Try.func19, Try.ntmps19
    go_wp2
    go_ret2
    exact ⟨rfl, rfl⟩
  · have hc : Hid (colF n f b = (9 + n - b, true)) := Lib.hid (by unfold colF; rw [if_neg (by omega), if_pos ⟨h2, h3⟩])
    rw [hc.out]
    rcases h1 with h1 | h1
    all_goals
      go_enter Try.func19, Try.ntmps19
      go_wp2
      all_goals go_ret2
      all_goals exact ⟨rfl, rfl⟩
  · have hc : Hid (colF n f b = (0, true)) := Lib.hid (by unfold colF; rw [if_neg (by omega), if_neg (by omega), if_pos h3])
    rw [hc.out]
    have he : (n == f + 9) = true := by simp; omega
    rcases h2 with h2 | h2
    all_goals
      go_enter Try.func19, Try.ntmps19
      go_wp2
      all_goals go_ret2
      all_goals exact ⟨rfl, rfl⟩
  · have hc : Hid (colF n f b = (0, false)) := Lib.hid (by unfold colF; rw [if_neg (by omega), if_neg (by omega), if_neg h3])
    rw [hc.out]
    have he : (n == f + 9) = false := by simp; omega
    rcases h1 with h1 | h1
    all_goals rcases h2 with h2 | h2
    all_goals
      go_enter Try.func19, Try.ntmps19
      go_wp2
      all_goals go_ret2
      all_goals exact ⟨rfl, rfl⟩

/-- A look. -/
abbrev lookV (f g b : Int) : Value := .agg #[.int .i64 f, .int .i64 g, .int .i64 b]
def setF (f n : Int) : Int := bits .andNot .i64 (bits .or .i64 f (flagF n)) (clearF n)
def oneF (a : Int × Int × Int) (n : Int) : Int × Int × Int :=
  if n ≤ 0 then (if -1 ≤ n then (0, 0, 0) else a)
  else (setF a.1 n, (if (colF n 30 90).2 then (colF n 30 90).1 else a.2.1), if (colF n 40 100).2 then (colF n 40 100).1 else a.2.2)
set_option maxHeartbeats 8000000 in
theorem one_any (w : World) (f g b n : Int) (hn : -9223372036854775808 ≤ n ∧ n ≤ 9223372036854775807) :
    Calls Try.prog 16 #[lookV f g b, .int .i64 n] w fun e w' => e = .returned (lookV (oneF (f, g, b) n).1 (oneF (f, g, b) n).2.1 (oneF (f, g, b) n).2.2) ∧ Chg w w' nob := by
  by_cases h0 : n ≤ 0
  · by_cases h1 : -1 ≤ n
    · have e : oneF (f, g, b) n = (0, 0, 0) := by unfold oneF; rw [if_pos h0, if_pos h1]
      rw [e]
      go_enter Try.func16, Try.ntmps16
      go_wp2
      go_returns
      exact ⟨rfl, ((Chg.refl w nob).alloc _).alloc _⟩
    · have e : oneF (f, g, b) n = (f, g, b) := by unfold oneF; rw [if_pos h0, if_neg h1]
      rw [e]
      go_enter Try.func16, Try.ntmps16
      go_wp2
      go_returns
      exact ⟨rfl, ((Chg.refl w nob).alloc _).alloc _⟩
  · obtain ⟨⟨c1, k1⟩, e1⟩ : ∃ p, colF n 30 90 = p := ⟨_, rfl⟩
    obtain ⟨⟨c2, k2⟩, e2⟩ : ∃ p, colF n 40 100 = p := ⟨_, rfl⟩
    have e : oneF (f, g, b) n = (setF f n, (if k1 then c1 else g), if k2 then c2 else b) := by unfold oneF; rw [if_neg h0, e1, e2]
    rw [e]
    clear e
    have E1 := Lib.hid e1
    have E2 := Lib.hid e2
    have hs : Hid (setF f n = bits .andNot .i64 (bits .or .i64 f (flagF n)) (clearF n)) := rfl
    clear e1 e2
    generalize setF f n = sf at *
    go_enter Try.func16, Try.ntmps16
    go_wp2_with fail
    refine wp_one [1] [3, 6, 9] [(3, [1]), (6, [1])] [0, 1, 2, 5, 3, 4, 6, 7, 8, 9] rfl (by kernel_rfl) (fun _ _ _ _ _ h => h) ?_; simp only [List.map_cons, List.map_nil, List.getElem?_toArray, List.getElem?_cons_zero, List.getElem?_cons_succ]
    (repeat (first | (apply can0; (· rfl); (· rfl); (· (intro w'; first | (go_simp; with_reducible rfl) | (go_simp; done))); simp only [Act.put, List.setIfInBounds_toArray, List.set_cons_zero, List.set_cons_succ]) | (apply can1; (· rfl); (· rfl); (· (first | (go_simp; with_reducible rfl) | (go_simp; done))); simp only [Act.put, List.setIfInBounds_toArray, List.set_cons_zero, List.set_cons_succ]) | (apply canN; (· rfl); (· rfl); simp only [Act.put, List.setIfInBounds_toArray, List.set_cons_zero, List.set_cons_succ]) | (apply canN1; (· rfl); (· rfl); simp only [Act.put, List.setIfInBounds_toArray, List.set_cons_zero, List.set_cons_succ]) | (apply can0; (· rfl); (· (go_simp; done)); (· (intro w'; first | (go_simp; with_reducible rfl) | (go_simp; done))); simp only [Act.put, List.setIfInBounds_toArray, List.set_cons_zero, List.set_cons_succ]) | (apply can1; (· rfl); (· (go_simp; done)); (· (first | (go_simp; with_reducible rfl) | (go_simp; done))); simp only [Act.put, List.setIfInBounds_toArray, List.set_cons_zero, List.set_cons_succ]) | (apply canN; (· rfl); (· (go_simp; done)); simp only [Act.put, List.setIfInBounds_toArray, List.set_cons_zero, List.set_cons_succ]) | (apply canN1; (· rfl); (· (go_simp; done)); simp only [Act.put, List.setIfInBounds_toArray, List.set_cons_zero, List.set_cons_succ])))
    refine canW rfl [1] rfl (fun K hK => ?_)
    go_simp
    go_at_call 14
    refine (flag_any _ n hn).mono ?_
    rintro e w' ⟨rfl, rfl⟩
    (refine hK _ _ (fun u hu => by simp only [List.mem_cons, List.not_mem_nil, or_false] at hu; (first | (subst hu; exact reRun_mk rfl (by first | (go_simp; with_reducible rfl) | (go_simp; done)) (holds_at rfl)) | (rcases hu with rfl | rfl <;> exact reRun_mk rfl (by first | (go_simp; with_reducible rfl) | (go_simp; done)) (holds_at rfl)) | (rcases hu with rfl | rfl | rfl <;> exact reRun_mk rfl (by first | (go_simp; with_reducible rfl) | (go_simp; done)) (holds_at rfl)))) ?_; clear hK K; try simp only [Act.put, List.setIfInBounds_toArray, List.set_cons_zero, List.set_cons_succ])
    (repeat (first | (apply can0; (· rfl); (· rfl); (· (intro w'; first | (go_simp; with_reducible rfl) | (go_simp; done))); simp only [Act.put, List.setIfInBounds_toArray, List.set_cons_zero, List.set_cons_succ]) | (apply can1; (· rfl); (· rfl); (· (first | (go_simp; with_reducible rfl) | (go_simp; done))); simp only [Act.put, List.setIfInBounds_toArray, List.set_cons_zero, List.set_cons_succ]) | (apply canN; (· rfl); (· rfl); simp only [Act.put, List.setIfInBounds_toArray, List.set_cons_zero, List.set_cons_succ]) | (apply canN1; (· rfl); (· rfl); simp only [Act.put, List.setIfInBounds_toArray, List.set_cons_zero, List.set_cons_succ]) | (apply can0; (· rfl); (· (go_simp; done)); (· (intro w'; first | (go_simp; with_reducible rfl) | (go_simp; done))); simp only [Act.put, List.setIfInBounds_toArray, List.set_cons_zero, List.set_cons_succ]) | (apply can1; (· rfl); (· (go_simp; done)); (· (first | (go_simp; with_reducible rfl) | (go_simp; done))); simp only [Act.put, List.setIfInBounds_toArray, List.set_cons_zero, List.set_cons_succ]) | (apply canN; (· rfl); (· (go_simp; done)); simp only [Act.put, List.setIfInBounds_toArray, List.set_cons_zero, List.set_cons_succ]) | (apply canN1; (· rfl); (· (go_simp; done)); simp only [Act.put, List.setIfInBounds_toArray, List.set_cons_zero, List.set_cons_succ])))
    refine canW rfl [1] rfl (fun K hK => ?_)
    go_simp
    go_at_call 18
    refine (cleared_any _ n hn).mono ?_
    rintro e w' ⟨rfl, rfl⟩
    (refine hK _ _ (fun u hu => by simp only [List.mem_cons, List.not_mem_nil, or_false] at hu; (first | (subst hu; exact reRun_mk rfl (by first | (go_simp; with_reducible rfl) | (go_simp; done)) (holds_at rfl)) | (rcases hu with rfl | rfl <;> exact reRun_mk rfl (by first | (go_simp; with_reducible rfl) | (go_simp; done)) (holds_at rfl)) | (rcases hu with rfl | rfl | rfl <;> exact reRun_mk rfl (by first | (go_simp; with_reducible rfl) | (go_simp; done)) (holds_at rfl)))) ?_; clear hK K; try simp only [Act.put, List.setIfInBounds_toArray, List.set_cons_zero, List.set_cons_succ])
    (repeat (first | (apply can0; (· rfl); (· rfl); (· (intro w'; first | (go_simp; with_reducible rfl) | (go_simp; done))); simp only [Act.put, List.setIfInBounds_toArray, List.set_cons_zero, List.set_cons_succ]) | (apply can1; (· rfl); (· rfl); (· (first | (go_simp; with_reducible rfl) | (go_simp; done))); simp only [Act.put, List.setIfInBounds_toArray, List.set_cons_zero, List.set_cons_succ]) | (apply canN; (· rfl); (· rfl); simp only [Act.put, List.setIfInBounds_toArray, List.set_cons_zero, List.set_cons_succ]) | (apply canN1; (· rfl); (· rfl); simp only [Act.put, List.setIfInBounds_toArray, List.set_cons_zero, List.set_cons_succ]) | (apply can0; (· rfl); (· (go_simp; done)); (· (intro w'; first | (go_simp; with_reducible rfl) | (go_simp; done))); simp only [Act.put, List.setIfInBounds_toArray, List.set_cons_zero, List.set_cons_succ]) | (apply can1; (· rfl); (· (go_simp; done)); (· (first | (go_simp; with_reducible rfl) | (go_simp; done))); simp only [Act.put, List.setIfInBounds_toArray, List.set_cons_zero, List.set_cons_succ]) | (apply canN; (· rfl); (· (go_simp; done)); simp only [Act.put, List.setIfInBounds_toArray, List.set_cons_zero, List.set_cons_succ]) | (apply canN1; (· rfl); (· (go_simp; done)); simp only [Act.put, List.setIfInBounds_toArray, List.set_cons_zero, List.set_cons_succ])))
    rw [← hs.out]
    refine canW rfl [] rfl (fun K hK => ?_)
    go_simp
    (refine hK _ _ (fun u hu => by cases hu) ?_; clear hK K; try simp only [Act.put, List.setIfInBounds_toArray, List.set_cons_zero, List.set_cons_succ])
    (repeat (first | (apply can0; (· rfl); (· rfl); (· (intro w'; first | (go_simp; with_reducible rfl) | (go_simp; done))); simp only [Act.put, List.setIfInBounds_toArray, List.set_cons_zero, List.set_cons_succ]) | (apply can1; (· rfl); (· rfl); (· (first | (go_simp; with_reducible rfl) | (go_simp; done))); simp only [Act.put, List.setIfInBounds_toArray, List.set_cons_zero, List.set_cons_succ]) | (apply canN; (· rfl); (· rfl); simp only [Act.put, List.setIfInBounds_toArray, List.set_cons_zero, List.set_cons_succ]) | (apply canN1; (· rfl); (· rfl); simp only [Act.put, List.setIfInBounds_toArray, List.set_cons_zero, List.set_cons_succ]) | (apply can0; (· rfl); (· (go_simp; done)); (· (intro w'; first | (go_simp; with_reducible rfl) | (go_simp; done))); simp only [Act.put, List.setIfInBounds_toArray, List.set_cons_zero, List.set_cons_succ]) | (apply can1; (· rfl); (· (go_simp; done)); (· (first | (go_simp; with_reducible rfl) | (go_simp; done))); simp only [Act.put, List.setIfInBounds_toArray, List.set_cons_zero, List.set_cons_succ]) | (apply canN; (· rfl); (· (go_simp; done)); simp only [Act.put, List.setIfInBounds_toArray, List.set_cons_zero, List.set_cons_succ]) | (apply canN1; (· rfl); (· (go_simp; done)); simp only [Act.put, List.setIfInBounds_toArray, List.set_cons_zero, List.set_cons_succ])))
    refine canE ?_
    have hn0 : 0 ≤ n := by omega
    go_wp2_with fail
    go_at_call 19
    refine (colour_any _ n 30 90 hn (by omega) (by omega) hn0).mono ?_
    rw [E1.out]
    rintro e w' ⟨rfl, rfl⟩
    cases k1
    all_goals
      go_wp2_with fail
      go_at_call 19
      refine (colour_any _ n 40 100 hn (by omega) (by omega) hn0).mono ?_
      rw [E2.out]
      rintro e w' ⟨rfl, rfl⟩
      cases k2
    all_goals
      go_wp2
      go_returns
      exact ⟨rfl, (((Chg.refl w nob).alloc _).alloc _).drew⟩
end Go.Proofs.Ytkcpgafafbjiaaa
