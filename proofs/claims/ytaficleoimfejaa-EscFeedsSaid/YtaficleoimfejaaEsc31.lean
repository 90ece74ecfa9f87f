/-
  Chapter 8: the program's parser and the document's go alike: any signs.
-/
import Derived.Test.YtaficleoimfejaaEsc30
namespace Go.Proofs.Ytaficleoimfejaa
open Go.RowKit
set_option linter.unusedVariables false
set_option linter.unusedSimpArgs false

theorem sim_take {s : PS} {t : RS} {r : Int} {n : Nat} (h : Sim s t) (hg : PSok s n) : (takeS s r).out = s.out ++ (refOne t r).2 ∧ Sim (takeS s r) (refOne t r).1 := by
  have hst := h.st
  have h0 := hg.st0
  have h7 := hg.st7
  unfold takeS refOne
  by_cases c1 : r = 24 ∨ r = 26
  · rw [if_pos c1, if_pos c1]; exact ⟨by simp [goesS], Sim.idle rfl (.inl rfl)⟩
  rw [if_neg c1, if_neg c1]
  by_cases c2 : r = 27
  · rw [if_pos c2, if_pos c2, hst]
    by_cases d4 : s.st = 4
    · rw [if_pos d4, if_pos d4]
      exact ⟨by simp, rfl, fun h => by simp at h, fun h => by simp at h, fun h => by simp at h, fun _ => h.txt (.inl d4)⟩
    · rw [if_neg d4, if_neg d4]
      by_cases d5 : s.st = 5
      · rw [if_pos d5, if_pos d5]; exact ⟨by simp, Sim.idle rfl (.inr (.inr rfl))⟩
      · rw [if_neg d5, if_neg d5]; exact ⟨by simp [goesS], Sim.esc rfl rfl rfl⟩
  rw [if_neg c2, if_neg c2, hst]
  by_cases d0 : s.st = 0
  · rw [if_pos d0, if_pos d0]
    unfold groundS
    by_cases e1 : r < 32
    · rw [if_pos e1, if_pos e1]; exact ⟨rfl, Sim.idle hst (.inl d0)⟩
    rw [if_neg e1, if_neg e1]
    by_cases e2 : 127 ≤ r ∧ r ≤ 159
    · rw [if_neg (show ¬ (r < 127 ∨ 159 < r) by omega), if_pos e2]; exact ⟨by simp, Sim.idle hst (.inl d0)⟩
    · rw [if_pos (show r < 127 ∨ 159 < r by omega), if_neg e2]; exact ⟨rfl, Sim.idle hst (.inl d0)⟩
  rw [if_neg d0, if_neg d0]
  by_cases d1 : s.st = 1
  · rw [if_pos d1, if_pos d1]; exact sim_escape d1 (h.one d1)
  rw [if_neg d1, if_neg d1]
  by_cases d2 : s.st = 2
  · rw [if_pos d2, if_pos d2]; exact sim_between h d2
  rw [if_neg d2, if_neg d2]
  by_cases d3 : s.st = 3
  · rw [if_pos d3, if_pos d3]; exact sim_control h d3
  rw [if_neg d3, if_neg d3]
  by_cases d4 : s.st = 4
  · rw [if_pos d4, if_pos d4]
    have ht := h.txt (.inl d4)
    have k4 : ∀ (s' : PS) (t' : RS), s'.st = 4 → t'.st = 4 → t'.text = s'.text → Sim s' t' := fun s' t' a b c => ⟨by rw [a, b], fun h => by omega, fun h => by omega, fun h => by omega, fun _ => c⟩
    unfold commandS
    by_cases e1 : r = 7
    · rw [if_pos e1, if_pos e1]
      unfold endsS refTold
      rw [ht]
      exact ⟨rfl, Sim.idle rfl (.inl rfl)⟩
    rw [if_neg e1, if_neg e1]
    by_cases e2 : r < 32 ∨ r = 127
    · rw [if_pos e2, if_pos e2]; exact ⟨by simp, h⟩
    rw [if_neg e2, if_neg e2, ht]
    by_cases e3 : s.text.length < 128
    · rw [if_pos e3, if_pos e3]; exact ⟨by simp, k4 _ _ d4 d4 rfl⟩
    · rw [if_neg e3, if_neg e3]; exact ⟨by simp, h⟩
  rw [if_neg d4, if_neg d4]
  have hesc : (escapeS (goesS s 1) r).out = s.out ++ (refEscape t r).2 ∧ Sim (escapeS (goesS s 1) r) (refEscape t r).1 := sim_escape rfl rfl
  by_cases d6 : s.st = 6
  · rw [if_pos d6]
    by_cases e1 : r = 92
    · rw [if_pos ⟨d6, e1⟩, if_pos e1]
      have ht := h.txt (.inr d6)
      unfold endsS refTold
      rw [ht]
      exact ⟨rfl, Sim.idle rfl (.inl rfl)⟩
    · rw [if_neg (fun h => e1 h.2), if_neg e1, if_neg (fun h => e1 h.2), if_neg (by omega)]
      exact hesc
  rw [if_neg (fun h => d6 h.1), if_neg d6]
  by_cases d7 : s.st = 7
  · rw [if_pos d7]
    by_cases e1 : r = 92
    · rw [if_pos ⟨d7, e1⟩, if_pos e1]; exact ⟨by simp [goesS], Sim.idle rfl (.inl rfl)⟩
    · rw [if_neg (fun h => e1 h.2), if_neg e1, if_neg (by omega)]; exact hesc
  rw [if_neg (fun h => d7 h.1), if_neg d7, if_pos (show s.st = 5 by omega)]
  exact ⟨by simp, h⟩
theorem sim_runs {s : PS} {t : RS} {n : Nat} (h : Sim s t) (hg : PSok s n) (l : List Int) : ∀ k, k ≤ l.length → (runS s (l.take k)).out = s.out ++ (refRun t (l.take k)).2 ∧ Sim (runS s (l.take k)) (refRun t (l.take k)).1
  | 0, _ => ⟨by simp [runS, refRun], h⟩
  | k + 1, hk => by
    obtain ⟨h1, h2⟩ := sim_runs h hg l k (by omega)
    rw [take_snoc (show k < l.length by omega) (0 : Int), runS_snoc, refRun_snoc]
    obtain ⟨h3, h4⟩ := sim_take (r := l.getD k 0) h2 (hg.run (l.take k))
    exact ⟨by rw [h3, h1, List.append_assoc], h4⟩
theorem sim_feed {s : PS} {t : RS} {n : Nat} (h : Sim s t) (hg : PSok s n) (ho : s.out = []) (l : List Int) : (runS s l).out = (refRun t l).2 ∧ Sim (outE (runS s l)) (refRun t l).1 := by
  obtain ⟨h1, h2⟩ := sim_runs h hg l l.length (Nat.le_refl _)
  rw [List.take_length] at h1 h2
  exact ⟨by rw [h1, ho, List.nil_append], ⟨h2.st, h2.one, h2.two, h2.thr, h2.txt⟩⟩
def newR : RS := ⟨0, [], false, false, 0, 0, []⟩
theorem sim_new : Sim newS newR := Sim.idle rfl (.inl rfl)
theorem newR_ok : RSok newR 0 := ⟨by simp [newR], by simp [newR], fun h => by simp [newR] at h, by simp [newR], by simp [newR], fun x hx => by simp [newR] at hx⟩
end Go.Proofs.Ytaficleoimfejaa
