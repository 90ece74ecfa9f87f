/-
  Chapter 10: the law's two objects side by side, and the law's own variable.
-/
import Derived.Test.YtadpjgjkicmhiaaTabs8
namespace Go.Proofs.Ytadpjgjkicmhiaa
open Go.RowKit
set_option linter.unusedVariables false
set_option linter.unusedSimpArgs false

theorem Stops.lt {w : World} {b : Nat} {l : List Bool} {F : Nat → Prop} (h : Stops w b l F) {k : Nat} (hk : F k) : k < w.heap.size := by
  obtain ⟨v, hb, ho, rfl, _⟩ := h
  rcases hk with rfl | hk
  · exact hb.lt
  · exact ho.lt hk
theorem RStops.lt {w : World} {b : Nat} {l : List Bool} {F : Nat → Prop} (h : RStops w b l F) {k : Nat} (hk : F k) : k < w.heap.size := by
  obtain ⟨v, hb, ho, rfl, _⟩ := h
  rcases hk with rfl | hk
  · exact hb.lt
  · exact ho.lt hk
theorem RStops.kept {w w' : World} {b : Nat} {l : List Bool} {F G : Nat → Prop} (h : RStops w b l F) (hc : Chg w w' G) (hG : ∀ k, F k → ¬ G k) : RStops w' b l F := by
  obtain ⟨v, hb, ho, rfl, hl⟩ := h
  exact ⟨v, hb.kept hc (hG _ (.inl rfl)), ho.kept hc (fun k hk => hG k (.inr hk)), rfl, hl⟩

/-- The law's own variables stand. -/
def Keeps (w w' : World) : Prop := ∀ p cs, Blk w p 40 cs → Blk w' p 40 cs
theorem Keeps.of {w w' : World} (h : Chg w w' nob) : Keeps w w' := fun p cs hb => hb.kept h id
theorem Keeps.refl (w : World) : Keeps w w := fun _ _ h => h
theorem Stops.keeps {w w' : World} {b : Nat} {l : List Bool} {F : Nat → Prop} (h : Stops w b l F) (hc : Chg w w' F) : Keeps w w' := fun p cs hb => by
  obtain ⟨v, hs, ho, rfl, _⟩ := h
  refine hb.kept hc fun hF => ?_
  rcases hF with rfl | hF
  · exact absurd (hb.inj hs).1 (by decide)
  · exact ho.ne hb (by decide) hF
theorem RStops.keeps {w w' : World} {b : Nat} {l : List Bool} {F : Nat → Prop} (h : RStops w b l F) (hc : Chg w w' F) : Keeps w w' := fun p cs hb => by
  obtain ⟨v, hs, ho, rfl, _⟩ := h
  refine hb.kept hc fun hF => ?_
  rcases hF with rfl | hF
  · exact absurd (hb.inj hs).1 (by decide)
  · exact ho.ne hb (by decide) hF

def Two (w0 w : World) (b x : Nat) (l m : List Bool) : Prop :=
  ∃ F G, Stops w b l F ∧ RStops w x m G ∧ (∀ k, F k → ¬ G k) ∧ Chg w0 w nob ∧ (∀ k, F k → w0.heap.size ≤ k) ∧ ∀ k, G k → w0.heap.size ≤ k
section
variable {w0 w w' : World} {b x : Nat} {l m : List Bool}
theorem Two.chg (h : Two w0 w b x l m) : Chg w0 w nob := by obtain ⟨_, _, _, _, _, h, _⟩ := h; exact h
theorem Two.kept (h : Two w0 w b x l m) (hc : Chg w w' nob) : Two w0 w' b x l m := by
  obtain ⟨F, G, h1, h2, h3, h4, h5, h6⟩ := h
  exact ⟨F, G, h1.kept hc (fun _ _ => id), h2.kept hc (fun _ _ => id), h3, h4.trans hc fun _ _ h => h, h5, h6⟩
theorem Two.len (h : Two w0 w b x l m) : l.length ≤ 200 := by obtain ⟨_, _, ⟨_, _, _, _, h⟩, _⟩ := h; exact h
theorem Two.make {F G : Nat → Prop} (h1 : Stops w b l F) (hF : ∀ k, F k → w0.heap.size ≤ k) (hc : Chg w0 w nob) (h2 : RStops w' x m G) (hG : ∀ k, G k → w.heap.size ≤ k) (hc2 : Chg w w' nob) : Two w0 w' b x l m := by
  refine ⟨F, G, h1.kept hc2 (fun _ _ => id), h2, fun k hk hg => ?_, hc.trans hc2 fun _ _ h => h, hF, fun k hk => Nat.le_trans hc.size (hG k hk)⟩
  have := h1.lt hk; have := hG k hg; omega
theorem Two.updS {F G : Nat → Prop} {l' : List Bool} (h1 : Stops w b l F) (h2 : RStops w x m G) (h3 : ∀ k, F k → ¬ G k) (h4 : Chg w0 w nob) (h5 : ∀ k, F k → w0.heap.size ≤ k) (h6 : ∀ k, G k → w0.heap.size ≤ k)
    (hu : Upd (fun w F => Stops w b l' F) F w w') : Two w0 w' b x l' m ∧ Keeps w w' := by
  obtain ⟨hc, F', hs, hF⟩ := hu
  refine ⟨⟨F', G, hs, h2.kept hc (fun k hk hf => h3 k hf hk), fun k hk hg => ?_, h4.trans hc (fun i hi h => by have := h5 i h; omega), fun k hk => ?_, h6⟩, h1.keeps hc⟩
  · rcases hF k hk with h | h
    · exact h3 k h hg
    · have := h2.lt hg; omega
  · rcases hF k hk with h | h
    · exact h5 k h
    · exact Nat.le_trans h4.size h
theorem Two.updX {F G : Nat → Prop} {m' : List Bool} (h1 : Stops w b l F) (h2 : RStops w x m G) (h3 : ∀ k, F k → ¬ G k) (h4 : Chg w0 w nob) (h5 : ∀ k, F k → w0.heap.size ≤ k) (h6 : ∀ k, G k → w0.heap.size ≤ k)
    (hu : Upd (fun w F => RStops w x m' F) G w w') : Two w0 w' b x l m' ∧ Keeps w w' := by
  obtain ⟨hc, G', hs, hG⟩ := hu
  refine ⟨⟨F, G', h1.kept hc (fun k hk hf => h3 k hk hf), hs, fun k hk hg => ?_, h4.trans hc (fun i hi h => by have := h6 i h; omega), h5, fun k hk => ?_⟩, h2.keeps hc⟩
  · rcases hG k hg with h | h
    · exact h3 k hk h
    · have := h1.lt hk; omega
  · rcases hG k hk with h | h
    · exact h6 k h
    · exact Nat.le_trans h4.size h
end

/-- A column that a call sets, or that is not there. -/
def setAt (l : List Bool) (c : Int) (x : Bool) : List Bool := if 0 ≤ c ∧ c < l.length then l.set c.toNat x else l
def isIn (l : List Bool) (c : Int) : Bool := decide (0 ≤ c ∧ c < l.length)
theorem setAt_len (l : List Bool) (c : Int) (x : Bool) : (setAt l c x).length = l.length := by unfold setAt; split <;> simp

section
variable {w0 w : World} {b x : Nat} {l m : List Bool} (h : Two w0 w b x l m)
include h
theorem t_set (c : Int) : Calls Try.prog 9 #[.pointer (some ⟨b, 0, none⟩), .int .i64 c] w fun e w' => e = .returned (.bool (isIn l c)) ∧ Two w0 w' b x (setAt l c true) m ∧ Keeps w w' := by
  have h' := h
  obtain ⟨F, G, h1, h2, h3, h4, h5, h6⟩ := h'
  by_cases hc : 0 ≤ c ∧ c < l.length
  · obtain ⟨k, rfl⟩ := Int.eq_ofNat_of_zero_le hc.1
    refine (set_in w b l F k h1 (by omega)).mono fun e w' ⟨he, hu⟩ => ⟨?_, ?_⟩
    · rw [he, isIn, decide_eq_true hc]
    · rw [setAt, if_pos hc, Int.toNat_natCast]; exact Two.updS h1 h2 h3 h4 h5 h6 hu
  · refine (set_out w b l F c h1 (by omega)).mono fun e w' ⟨he, hu⟩ => ⟨?_, ?_⟩
    · rw [he, isIn, decide_eq_false hc]
    · rw [setAt, if_neg hc, hu]; exact ⟨h, Keeps.refl _⟩
theorem t_clr (c : Int) : Calls Try.prog 14 #[.pointer (some ⟨b, 0, none⟩), .int .i64 c] w fun e w' => e = .returned (.bool (isIn l c)) ∧ Two w0 w' b x (setAt l c false) m ∧ Keeps w w' := by
  have h' := h
  obtain ⟨F, G, h1, h2, h3, h4, h5, h6⟩ := h'
  by_cases hc : 0 ≤ c ∧ c < l.length
  · obtain ⟨k, rfl⟩ := Int.eq_ofNat_of_zero_le hc.1
    refine (clr_in w b l F k h1 (by omega)).mono fun e w' ⟨he, hu⟩ => ⟨?_, ?_⟩
    · rw [he, isIn, decide_eq_true hc]
    · rw [setAt, if_pos hc, Int.toNat_natCast]; exact Two.updS h1 h2 h3 h4 h5 h6 hu
  · refine (clr_out w b l F c h1 (by omega)).mono fun e w' ⟨he, hu⟩ => ⟨?_, ?_⟩
    · rw [he, isIn, decide_eq_false hc]
    · rw [setAt, if_neg hc, hu]; exact ⟨h, Keeps.refl _⟩
theorem t_turn (c : Int) (y : Bool) : Calls Try.prog 17 #[.pointer (some ⟨x, 0, none⟩), .int .i64 c, .bool y] w fun e w' => e = .returned (.bool (isIn m c)) ∧ Two w0 w' b x l (setAt m c y) ∧ Keeps w w' := by
  have h' := h
  obtain ⟨F, G, h1, h2, h3, h4, h5, h6⟩ := h'
  by_cases hc : 0 ≤ c ∧ c < m.length
  · obtain ⟨k, rfl⟩ := Int.eq_ofNat_of_zero_le hc.1
    refine (turn_in w x m G k y h2 (by omega)).mono fun e w' ⟨he, hu⟩ => ⟨?_, ?_⟩
    · rw [he, isIn, decide_eq_true hc]
    · rw [setAt, if_pos hc, Int.toNat_natCast]; exact Two.updX h1 h2 h3 h4 h5 h6 hu
  · refine (turn_out w x m G c y h2 (by omega)).mono fun e w' ⟨he, hu⟩ => ⟨?_, ?_⟩
    · rw [he, isIn, decide_eq_false hc]
    · rw [setAt, if_neg hc, hu]; exact ⟨h, Keeps.refl _⟩
theorem t_clearAll (h1 : 1 ≤ l.length) : Calls Try.prog 8 #[.pointer (some ⟨b, 0, none⟩)] w fun e w' => e = .returned (.tuple #[]) ∧ Two w0 w' b x (List.replicate l.length false) m ∧ Keeps w w' := by
  obtain ⟨F, G, h1', h2, h3, h4, h5, h6⟩ := h
  exact (clearAll_any w b l F h1' h1).mono fun e w' ⟨he, hu⟩ => ⟨he, Two.updS h1' h2 h3 h4 h5 h6 hu⟩
theorem t_resize (c : Int) : Calls Try.prog 15 #[.pointer (some ⟨b, 0, none⟩), .int .i64 c] w fun e w' => e = .returned (.int .i64 (if 1 ≤ c ∧ c ≤ 200 then 0 else 1)) ∧ Two w0 w' b x (if 1 ≤ c ∧ c ≤ 200 then resized l c.toNat else l) m ∧ Keeps w w' := by
  have h' := h
  obtain ⟨F, G, h1, h2, h3, h4, h5, h6⟩ := h'
  by_cases hc : 1 ≤ c ∧ c ≤ 200
  · rw [if_pos hc, if_pos hc]
    exact (resize_any w b l F c h1 hc.1 hc.2).mono fun e w' ⟨he, hu⟩ => ⟨he, Two.updS h1 h2 h3 h4 h5 h6 hu⟩
  · rw [if_neg hc, if_neg hc]
    exact (resize_not w b c (by omega)).mono fun e w' ⟨he, hu⟩ => ⟨he, by rw [hu]; exact ⟨h, Keeps.refl _⟩⟩
theorem t_rresize (c : Int) : Calls Try.prog 18 #[.pointer (some ⟨x, 0, none⟩), .int .i64 c] w fun e w' => e = .returned (.int .i64 (if 1 ≤ c ∧ c ≤ 200 then 0 else 1)) ∧ Two w0 w' b x l (if 1 ≤ c ∧ c ≤ 200 then resized m c.toNat else m) ∧ Keeps w w' := by
  have h' := h
  obtain ⟨F, G, h1, h2, h3, h4, h5, h6⟩ := h'
  by_cases hc : 1 ≤ c ∧ c ≤ 200
  · rw [if_pos hc, if_pos hc]
    exact (rresize_any w x m G c h2 hc.1 hc.2).mono fun e w' ⟨he, hu⟩ => ⟨he, Two.updX h1 h2 h3 h4 h5 h6 hu⟩
  · rw [if_neg hc, if_neg hc]
    exact (rresize_not w x c (by omega)).mono fun e w' ⟨he, hu⟩ => ⟨he, by rw [hu]; exact ⟨h, Keeps.refl _⟩⟩
theorem t_list : Calls Try.prog 12 #[.pointer (some ⟨b, 0, none⟩)] w fun e w' => ∃ v, e = .returned v ∧ Own w' 3 1 v (stopsOf l).length (intsV (stopsOf l)) ∧ Chg w w' nob := by
  obtain ⟨F, G, h1, h2, h3, h4, h5, h6⟩ := h
  exact (list_any w b l F h1).mono fun e w' ⟨v, h1, h2, h3, _⟩ => ⟨v, h1, h2, h3⟩
theorem t_rlist : Calls Try.prog 20 #[.pointer (some ⟨x, 0, none⟩)] w fun e w' => ∃ v, e = .returned v ∧ Own w' 3 1 v (stopsOf m).length (intsV (stopsOf m)) ∧ Chg w w' nob := by
  obtain ⟨F, G, h1, h2, h3, h4, h5, h6⟩ := h
  exact (rlist_any w x m G h2).mono fun e w' ⟨v, h1, h2, h3, _⟩ => ⟨v, h1, h2, h3⟩
theorem t_next (col n : Int) (hl : 1 ≤ l.length) (hc1 : -9223372036854775808 ≤ col) (hc2 : col ≤ 9223372036854775807) (hn1 : -9223372036854775808 ≤ n) (hn2 : n ≤ 9223372036854775807) :
    Calls Try.prog 10 #[.pointer (some ⟨b, 0, none⟩), .int .i64 col, .int .i64 n] w fun e w' => e = .returned (.int .i64 (nextF l col n)) ∧ w' = w := by
  obtain ⟨F, G, h1, h2, h3, h4, h5, h6⟩ := h
  exact next_any w b l F col n h1 hl hc1 hc2 hn1 hn2
theorem t_rnext (col n : Int) (hl : 1 ≤ m.length) (hc1 : -9223372036854775808 ≤ col) (hc2 : col ≤ 9223372036854775807) (hn1 : -9223372036854775808 ≤ n) (hn2 : n ≤ 9223372036854775807) :
    Calls Try.prog 21 #[.pointer (some ⟨x, 0, none⟩), .int .i64 col, .int .i64 n] w fun e w' => e = .returned (.int .i64 (nextF m col n)) ∧ w' = w := by
  obtain ⟨F, G, h1, h2, h3, h4, h5, h6⟩ := h
  exact rnext_any w x m G col n h2 hl hc1 hc2 hn1 hn2
theorem t_prev (col n : Int) (hl : 1 ≤ l.length) (hc1 : -9223372036854775808 ≤ col) (hc2 : col ≤ 9223372036854775807) (hn1 : -9223372036854775808 ≤ n) (hn2 : n ≤ 9223372036854775807) :
    Calls Try.prog 11 #[.pointer (some ⟨b, 0, none⟩), .int .i64 col, .int .i64 n] w fun e w' => e = .returned (.int .i64 (prevF l col n)) ∧ w' = w := by
  obtain ⟨F, G, h1, h2, h3, h4, h5, h6⟩ := h
  exact prev_any w b l F col n h1 hl hc1 hc2 hn1 hn2
theorem t_rprev (col n : Int) (hl : 1 ≤ m.length) (hc1 : -9223372036854775808 ≤ col) (hc2 : col ≤ 9223372036854775807) (hn1 : -9223372036854775808 ≤ n) (hn2 : n ≤ 9223372036854775807) :
    Calls Try.prog 22 #[.pointer (some ⟨x, 0, none⟩), .int .i64 col, .int .i64 n] w fun e w' => e = .returned (.int .i64 (prevF m col n)) ∧ w' = w := by
  obtain ⟨F, G, h1, h2, h3, h4, h5, h6⟩ := h
  exact rprev_any w x m G col n h2 hl hc1 hc2 hn1 hn2
end
theorem resized_len (l : List Bool) (c : Int) (h : 1 ≤ l.length) : 1 ≤ (if 1 ≤ c ∧ c ≤ 200 then resized l c.toNat else l).length := by
  split
  · rw [length_resized]; omega
  · exact h
theorem cellR {w : World} {x : Nat} {m : List Bool} {w0 : World} {b : Nat} {l : List Bool} (h : Two w0 w b x l m) : ∃ a c, w.cell? ⟨x, 0, none⟩ = some (.slice a m.length c) ∧ m.length ≤ c ∧ c ≤ 9223372036854775807 := by
  obtain ⟨F, G, h1, ⟨v, hb, ho, _⟩, _⟩ := h
  obtain ⟨ao, cap, rfl, h1, h2, _⟩ := ho.form
  exact ⟨ao, cap, by rw [hb.cell]; rfl, h1, h2⟩
end Go.Proofs.Ytadpjgjkicmhiaa
