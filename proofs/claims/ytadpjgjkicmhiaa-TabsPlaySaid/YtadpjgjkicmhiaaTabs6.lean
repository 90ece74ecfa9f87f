/-
  Chapter 10: the calls again, as a law's walk meets them: 'Here': the object of the law's own.
-/
import Derived.Test.YtadpjgjkicmhiaaTabs5
namespace Go.Proofs.Ytadpjgjkicmhiaa
open Go.RowKit
set_option linter.unusedVariables false
set_option linter.unusedSimpArgs false

def Here (w0 w : World) (b : Nat) (l : List Bool) : Prop := ∃ F, Stops w b l F ∧ Chg w0 w nob ∧ ∀ k, F k → w0.heap.size ≤ k

theorem Here.chg {w0 w : World} {b : Nat} {l : List Bool} (h : Here w0 w b l) : Chg w0 w nob := by obtain ⟨_, _, h, _⟩ := h; exact h
theorem Here.kept {w0 w w' : World} {b : Nat} {l : List Bool} (h : Here w0 w b l) (hc : Chg w w' nob) : Here w0 w' b l := by
  obtain ⟨F, h1, h2, h3⟩ := h
  exact ⟨F, h1.kept hc (fun _ _ => id), h2.trans hc fun _ _ h => h, h3⟩
theorem Here.upd {w0 w w' : World} {b : Nat} {l' : List Bool} {F : Nat → Prop} (h2 : Chg w0 w nob) (h3 : ∀ k, F k → w0.heap.size ≤ k) (hu : Upd (fun w F => Stops w b l' F) F w w') : Here w0 w' b l' := by
  obtain ⟨hc, F', hs, hF⟩ := hu
  refine ⟨F', hs, h2.trans hc (fun i hi h => by have := h3 i h; omega), fun k hk => ?_⟩
  rcases hF k hk with h | h
  · exact h3 k h
  · exact Nat.le_trans h2.size h
theorem Here.len {w0 w : World} {b : Nat} {l : List Bool} (h : Here w0 w b l) : l.length ≤ 200 := by obtain ⟨_, ⟨_, _, _, _, h⟩, _⟩ := h; exact h

theorem h_new (w : World) (c : Int) (h1 : 1 ≤ c) (h2 : c ≤ 200) :
    Calls Try.prog 7 #[.int .i64 c] w fun e w' => ∃ b, e = .returned (.tuple #[.pointer (some ⟨b, 0, none⟩), .int .i64 0]) ∧ Here w w' b (fresh 0 c.toNat) :=
  (new_any w c h1 h2).mono fun e w' ⟨b, F, he, h1, h2, h3⟩ => ⟨b, he, F, h1, h2, h3⟩

section
variable {w0 w : World} {b : Nat} {l : List Bool} (h : Here w0 w b l)
include h
theorem h_set (k : Nat) (hk : k < l.length) : Calls Try.prog 9 #[.pointer (some ⟨b, 0, none⟩), .int .i64 k] w fun e w' => e = .returned (.bool true) ∧ Here w0 w' b (l.set k true) := by
  obtain ⟨F, h1, h2, h3⟩ := h
  exact (set_in w b l F k h1 hk).mono fun e w' ⟨he, hu⟩ => ⟨he, Here.upd h2 h3 hu⟩
theorem h_setNot (c : Int) (hc : c < 0 ∨ l.length ≤ c) : Calls Try.prog 9 #[.pointer (some ⟨b, 0, none⟩), .int .i64 c] w fun e w' => e = .returned (.bool false) ∧ w' = w := by
  obtain ⟨F, h1, h2, h3⟩ := h
  exact set_out w b l F c h1 hc
theorem h_clr (k : Nat) (hk : k < l.length) : Calls Try.prog 14 #[.pointer (some ⟨b, 0, none⟩), .int .i64 k] w fun e w' => e = .returned (.bool true) ∧ Here w0 w' b (l.set k false) := by
  obtain ⟨F, h1, h2, h3⟩ := h
  exact (clr_in w b l F k h1 hk).mono fun e w' ⟨he, hu⟩ => ⟨he, Here.upd h2 h3 hu⟩
theorem h_clrNot (c : Int) (hc : c < 0 ∨ l.length ≤ c) : Calls Try.prog 14 #[.pointer (some ⟨b, 0, none⟩), .int .i64 c] w fun e w' => e = .returned (.bool false) ∧ w' = w := by
  obtain ⟨F, h1, h2, h3⟩ := h
  exact clr_out w b l F c h1 hc
theorem h_resize (c : Int) (h1 : 1 ≤ c) (h2 : c ≤ 200) : Calls Try.prog 15 #[.pointer (some ⟨b, 0, none⟩), .int .i64 c] w fun e w' => e = .returned (.int .i64 0) ∧ Here w0 w' b (resized l c.toNat) := by
  obtain ⟨F, hs, hc, hF⟩ := h
  exact (resize_any w b l F c hs h1 h2).mono fun e w' ⟨he, hu⟩ => ⟨he, Here.upd hc hF hu⟩
theorem h_clearAll (h1 : 1 ≤ l.length) : Calls Try.prog 8 #[.pointer (some ⟨b, 0, none⟩)] w fun e w' => e = .returned (.tuple #[]) ∧ Here w0 w' b (List.replicate l.length false) := by
  obtain ⟨F, hs, hc, hF⟩ := h
  exact (clearAll_any w b l F hs h1).mono fun e w' ⟨he, hu⟩ => ⟨he, Here.upd hc hF hu⟩
theorem h_list : Calls Try.prog 12 #[.pointer (some ⟨b, 0, none⟩)] w fun e w' =>
    ∃ v, e = .returned v ∧ Own w' 3 1 v (stopsOf l).length (intsV (stopsOf l)) ∧ Chg w w' nob ∧ Here w0 w' b l := by
  have h' := h
  obtain ⟨F, hs, hc, hF⟩ := h'
  exact (list_any w b l F hs).mono fun e w' ⟨v, he, ho, h2, h3⟩ => ⟨v, he, ho, h2, h.kept h2⟩
theorem h_next (col n : Int) (h1 : 1 ≤ l.length) (hc1 : -9223372036854775808 ≤ col) (hc2 : col ≤ 9223372036854775807) (hn1 : -9223372036854775808 ≤ n) (hn2 : n ≤ 9223372036854775807) :
    Calls Try.prog 10 #[.pointer (some ⟨b, 0, none⟩), .int .i64 col, .int .i64 n] w fun e w' => e = .returned (.int .i64 (nextF l col n)) ∧ w' = w := by
  obtain ⟨F, hs, hc, hF⟩ := h
  exact next_any w b l F col n hs h1 hc1 hc2 hn1 hn2
theorem h_prev (col n : Int) (h1 : 1 ≤ l.length) (hc1 : -9223372036854775808 ≤ col) (hc2 : col ≤ 9223372036854775807) (hn1 : -9223372036854775808 ≤ n) (hn2 : n ≤ 9223372036854775807) :
    Calls Try.prog 11 #[.pointer (some ⟨b, 0, none⟩), .int .i64 col, .int .i64 n] w fun e w' => e = .returned (.int .i64 (prevF l col n)) ∧ w' = w := by
  obtain ⟨F, hs, hc, hF⟩ := h
  exact prev_any w b l F col n hs h1 hc1 hc2 hn1 hn2
end

theorem intsV_intI (l : List Nat) : intsV l = intI (l.map fun (n : Nat) => (n : Int)) := by simp [intsV, intI]
end Go.Proofs.Ytadpjgjkicmhiaa
