/-
  Chapter 8: the program's parser and the document's go alike (plain).
-/
import Derived.Test.YtaficleoimfejaaEsc29
namespace Go.Proofs.Ytaficleoimfejaa
open Go.RowKit
set_option linter.unusedVariables false
set_option linter.unusedSimpArgs false

structure Sim (s : PS) (t : RS) : Prop where
  st : t.st = s.st
  one : s.st = 1 → s.sp = false
  two : s.st = 2 → t.inter = s.inter ∧ t.sp = s.sp
  thr : s.st = 3 → t.sp = s.sp ∧ t.inter = s.inter ∧ t.priv = s.priv ∧ 0 ≤ s.inter ∧ 0 ≤ s.priv ∧ (s.sp = false → t.params = s.params ∧ t.any = s.told)
  txt : s.st = 4 ∨ s.st = 6 → t.text = s.text
theorem Sim.goes (s : PS) (n : Int) : Sim (goesS s n) (beginS n) := ⟨rfl, fun _ => rfl, fun _ => ⟨rfl, rfl⟩, fun _ => ⟨rfl, rfl, rfl, Int.le_refl _, Int.le_refl _, fun _ => ⟨rfl, rfl⟩⟩, fun _ => rfl⟩
/-- At the ground, or amidst a text: nothing else counts. -/
theorem Sim.idle {s : PS} {t : RS} (h : t.st = s.st) (h0 : s.st = 0 ∨ s.st = 5 ∨ s.st = 7) : Sim s t :=
  ⟨h, fun h => by omega, fun h => by omega, fun h => by omega, fun h => by omega⟩
theorem Sim.esc {s : PS} {t : RS} (h : t.st = 1) (h0 : s.st = 1) (hs : s.sp = false) : Sim s t :=
  ⟨by rw [h, h0], fun _ => hs, fun h => by omega, fun h => by omega, fun h => by omega⟩
theorem sim_escape {s : PS} {t : RS} {r : Int} (h1 : s.st = 1) (hs : s.sp = false) : (escapeS s r).out = s.out ++ (refEscape t r).2 ∧ Sim (escapeS s r) (refEscape t r).1 := by
  unfold escapeS refEscape
  by_cases c1 : r < 32
  · rw [if_pos c1, if_pos c1]; exact ⟨rfl, Sim.esc rfl h1 hs⟩
  rw [if_neg c1, if_neg c1]
  by_cases c2 : r = 127
  · rw [if_pos c2, if_neg (by omega), if_neg (by omega), if_neg (by omega), if_neg (by omega), if_neg (by omega), if_pos c2]
    exact ⟨by simp, Sim.esc rfl h1 hs⟩
  rw [if_neg c2]
  by_cases c3 : r = 91
  · rw [if_pos c3, if_pos c3]; exact ⟨by simp [goesS], Sim.goes _ _⟩
  rw [if_neg c3, if_neg c3]
  by_cases c4 : r = 93
  · rw [if_pos c4, if_pos c4]; exact ⟨by simp [goesS], Sim.goes _ _⟩
  rw [if_neg c4, if_neg c4]
  by_cases c5 : r = 80 ∨ r = 88 ∨ r = 94 ∨ r = 95
  · rw [if_pos c5, if_pos c5]; exact ⟨by simp [goesS], Sim.goes _ _⟩
  rw [if_neg c5, if_neg c5]
  by_cases c6 : r < 48
  · rw [if_pos c6, if_pos (by omega)]
    exact ⟨by simp, rfl, fun h => by simp at h, fun _ => ⟨rfl, hs.symm⟩, fun h => by simp at h, fun h => by simp at h⟩
  rw [if_neg c6, if_neg (show ¬ r ≤ 47 by omega)]
  by_cases c7 : r < 127
  · rw [if_pos c7, if_pos (by omega)]; exact ⟨rfl, Sim.idle rfl (.inl rfl)⟩
  · rw [if_neg c7, if_neg (by omega), if_neg c2]; exact ⟨by simp [goesS], Sim.idle rfl (.inl rfl)⟩
theorem sim_between {s : PS} {t : RS} {r : Int} (h : Sim s t) (h2 : s.st = 2) : (betweenS s r).out = s.out ++ (refBetween t r).2 ∧ Sim (betweenS s r) (refBetween t r).1 := by
  obtain ⟨hi, hsp⟩ := h.two h2
  have hst := h.st
  unfold betweenS refBetween
  by_cases c1 : r < 32
  · rw [if_pos c1, if_pos c1]
    exact ⟨rfl, hst, fun h => by rw [show (tellS s (ev0 2 r 0 0)).st = s.st from rfl] at h; omega, fun _ => ⟨hi, hsp⟩, fun h => by rw [show (tellS s (ev0 2 r 0 0)).st = s.st from rfl] at h; omega, fun h => by rw [show (tellS s (ev0 2 r 0 0)).st = s.st from rfl] at h; omega⟩
  rw [if_neg c1, if_neg c1]
  by_cases c2 : r = 127
  · rw [if_pos c2, if_neg (by omega), if_neg (by omega), if_pos c2]
    exact ⟨by simp, h⟩
  rw [if_neg c2]
  by_cases c3 : r < 48
  · rw [if_pos c3, if_pos (by omega)]
    exact ⟨by simp, hst, fun h => by simp at h; omega, fun _ => ⟨hi, rfl⟩, fun h => by simp at h; omega, fun h => by simp at h; omega⟩
  rw [if_neg c3, if_neg (show ¬ r ≤ 47 by omega)]
  by_cases c4 : r < 127
  · rw [if_pos (show r ≤ 126 by omega)]
    by_cases c5 : s.sp = false
    · rw [if_pos ⟨c4, c5⟩, hsp, if_pos c5, hi]; exact ⟨rfl, Sim.idle rfl (.inl rfl)⟩
    · rw [if_neg (fun h => c5 h.2), hsp, if_neg c5]; exact ⟨by simp [goesS], Sim.idle rfl (.inl rfl)⟩
  · rw [if_neg (fun h => c4 h.1), if_neg (show ¬ r ≤ 126 by omega), if_neg c2]; exact ⟨by simp [goesS], Sim.idle rfl (.inl rfl)⟩
theorem gt_ne {x : Int} (h : 0 ≤ x) : (x != 0) = decide (0 < x) := by rw [Bool.eq_iff_iff]; simp; omega
theorem sim_control {s : PS} {t : RS} {r : Int} (h : Sim s t) (h3 : s.st = 3) : (controlS s r).out = s.out ++ (refControl t r).2 ∧ Sim (controlS s r) (refControl t r).1 := by
  obtain ⟨hsp, hi, hp, hi0, hp0, hpa⟩ := h.thr h3
  have hst := h.st
  obtain ⟨st, params, told, priv, inter, sp, text, out⟩ := s
  obtain ⟨tst, tparams, any, tsp, tpriv, tinter, ttext⟩ := t
  simp only at hsp hi hp hi0 hp0 hpa hst h3
  subst hsp hi hp hst h3
  have k3 : ∀ (P Q : List Int) (a b : Bool) (p i : Int) (x y : List Int) (o : List Ev) (sp : Bool), 0 ≤ i → 0 ≤ p → (sp = false → Q = P ∧ b = a) → Sim ⟨3, P, a, p, i, sp, x, o⟩ ⟨3, Q, b, sp, p, i, y⟩ :=
    fun P Q a b p i x y o sp h1 h2 h3 => ⟨rfl, fun h => by simp at h, fun h => by simp at h, fun _ => ⟨rfl, rfl, rfl, h1, h2, h3⟩, fun h => by simp at h⟩
  unfold controlS refControl
  by_cases c1 : r < 32
  · rw [if_pos c1, if_pos c1]; exact ⟨rfl, k3 _ _ _ _ _ _ _ _ _ _ hi0 hp0 hpa⟩
  rw [if_neg c1, if_neg c1]
  by_cases c2 : r = 127
  · rw [if_pos c2, if_neg (by omega), if_neg (by omega), if_neg (by omega), if_neg (by omega), if_neg (by omega), if_pos c2]
    exact ⟨by simp, h⟩
  rw [if_neg c2]
  by_cases c3 : r < 48
  · rw [if_pos c3, if_pos (by omega)]
    simp only [gt_ne hi0]
    exact ⟨by simp, k3 _ _ _ _ _ _ _ _ _ _ (by omega) hp0 (fun hh => by rw [Bool.or_eq_false_iff] at hh; exact hpa hh.1)⟩
  rw [if_neg c3, if_neg (show ¬ r ≤ 47 by omega)]
  by_cases c4 : r < 64
  · rw [if_pos c4]
    unfold partS
    by_cases c5 : 60 ≤ r
    · rw [if_pos c5, if_neg (by omega), if_neg (by omega), if_pos (by omega)]
      simp only [gt_ne hi0, gt_ne hp0]
      cases tsp with
      | true => exact ⟨by simp, by simpa using k3 _ _ _ _ _ _ _ _ _ true hi0 (by omega) (fun h => by cases h)⟩
      | false =>
        obtain ⟨e1, e2⟩ := hpa rfl
        subst e1 e2
        refine ⟨by simp, ?_⟩
        have e : (false || any || decide (0 < tinter) || decide (0 < tpriv)) = (false || any || decide (0 < tpriv) || decide (0 < tinter)) := by cases any <;> cases decide (0 < tinter) <;> cases decide (0 < tpriv) <;> rfl
        simp only [e]
        exact k3 _ _ _ _ _ _ _ _ _ _ hi0 (by omega) (fun _ => ⟨rfl, rfl⟩)
    · rw [if_neg c5]
      by_cases c6 : 0 < tinter
      · rw [if_pos c6]
        have e : (tinter != 0) = true := by simp; omega
        by_cases c7 : r ≤ 57
        · rw [if_pos c7]
          refine ⟨by simp [refDigit], ?_⟩
          simp only [refDigit, e, Bool.or_true]
          exact k3 _ _ _ _ _ _ _ _ _ true hi0 hp0 (fun h => by cases h)
        · rw [if_neg c7, if_pos (by omega)]
          refine ⟨by simp, ?_⟩
          simp only [e, Bool.or_true]
          exact k3 _ _ _ _ _ _ _ _ _ true hi0 hp0 (fun h => by cases h)
      · rw [if_neg c6]
        have e : (tinter != 0) = false := by simp; omega
        by_cases c7 : r ≤ 57
        · rw [if_pos c7, if_pos c7]
          refine ⟨by simp [digitS, refDigit], ?_⟩
          simp only [digitS, refDigit, e, Bool.or_false]
          refine k3 _ _ _ _ _ _ _ _ _ _ hi0 hp0 (fun hh => ?_)
          obtain ⟨e1, e2⟩ := hpa hh
          subst e1
          exact ⟨by rw [Int.mul_comm], rfl⟩
        · rw [if_neg c7, if_neg c7, if_pos (by omega)]
          refine ⟨by simp, ?_⟩
          simp only [e, Bool.or_false]
          refine k3 _ _ _ _ _ _ _ _ _ _ hi0 hp0 (fun hh => ?_)
          obtain ⟨e1, e2⟩ := hpa hh
          subst e1
          exact ⟨rfl, rfl⟩
  rw [if_neg c4, if_neg (show ¬ r ≤ 57 by omega), if_neg (show ¬ r ≤ 59 by omega), if_neg (show ¬ r ≤ 63 by omega)]
  by_cases c8 : r < 127
  · rw [if_pos (show r ≤ 126 by omega)]
    cases tsp with
    | true => rw [if_neg (fun h => by cases h.2), if_pos rfl]; exact ⟨by simp [goesS], Sim.idle rfl (.inl rfl)⟩
    | false =>
      obtain ⟨e1, e2⟩ := hpa rfl
      subst e1 e2
      rw [if_pos ⟨c8, rfl⟩, if_neg (by simp)]
      exact ⟨rfl, Sim.idle rfl (.inl rfl)⟩
  · rw [if_neg (fun h => c8 h.1), if_neg (show ¬ r ≤ 126 by omega), if_neg c2]; exact ⟨by simp [goesS], Sim.idle rfl (.inl rfl)⟩
end Go.Proofs.Ytaficleoimfejaa
