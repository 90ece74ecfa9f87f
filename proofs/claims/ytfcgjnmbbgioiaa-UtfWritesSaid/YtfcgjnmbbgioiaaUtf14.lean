/-
  Chapter 3: both decoders side by side.
-/
import Derived.Test.YtfcgjnmbbgioiaaUtf13
namespace Go.Proofs.Ytfcgjnmbbgioiaa
open Go.RowKit
set_option linter.unusedVariables false
set_option linter.unusedSimpArgs false

theorem valid_take {s : List Int} {c : Int} (h : runD [] s = (s, [])) : runD [] (takeD s c).1 = ((takeD s c).1, []) := by
  have h0 : ∀ c, takeD [] c = takeF [] c := fun c => by unfold takeD; rw [if_neg (by simp)]
  by_cases hP : s ≠ [] ∧ folB (s.headD 0) c s.length = false
  · have e : (takeD s c).1 = (takeF [] c).1 := by unfold takeD; rw [if_pos hP]
    rw [e]
    by_cases hq : takeF [] c = ([c], [])
    · rw [hq]; simp [runD, h0, hq]
    · have : (takeF [] c).1 = [] := by
        unfold takeF at hq ⊢
        split
        · rfl
        · split
          · rfl
          · rename_i h1 h2; exfalso; rw [if_neg h1, if_neg h2] at hq; exact hq rfl
      rw [this]; rfl
  · have e : takeD s c = takeF s c := by unfold takeD; rw [if_neg hP]
    by_cases hq : takeF s c = (s ++ [c], [])
    · rw [e, hq, runD_append, h]; simp [runD, e, hq]
    · have : (takeF s c).1 = [] := by
        unfold takeF at hq ⊢
        split
        · rfl
        · split
          · rfl
          · rename_i h1 h2; exfalso; rw [if_neg h1, if_neg h2] at hq; exact hq rfl
      rw [e, this]; rfl
theorem valid_run : ∀ (l s : List Int), runD [] s = (s, []) → runD [] (runD s l).1 = ((runD s l).1, [])
  | [], s, h => h
  | c :: r, s, h => valid_run r _ (valid_take h)
theorem takeF_mem {s : List Int} {c x : Int} (h : x ∈ (takeF s c).1) : x ∈ s ∨ x = c := by
  unfold takeF at h
  split at h
  · simp at h
  · split at h
    · simp at h
    · simpa using h
theorem takeD_mem {s : List Int} {c x : Int} (h : x ∈ (takeD s c).1) : x ∈ s ∨ x = c := by
  unfold takeD at h
  split at h
  · rcases takeF_mem h with h | h
    · simp at h
    · exact .inr h
  · exact takeF_mem h
theorem runD_mem : ∀ (l s : List Int) {x : Int}, x ∈ (runD s l).1 → x ∈ s ∨ x ∈ l
  | [], s, x, h => .inl h
  | c :: r, s, x, h => by
    rcases runD_mem r _ h with h | h
    · rcases takeD_mem h with h | h
      · exact .inl h
      · exact .inr (by simp [h])
    · exact .inr (by simp [h])

set_option maxHeartbeats 1000000 in
theorem rflush_any (w : World) (b : Nat) (s : List Int) (F : Nat → Prop) (h : RDec w b s F) : Calls Try.prog 16 #[.pointer (some ⟨b, 0, none⟩)] w fun e w' =>
    ∃ v, e = .returned v ∧ Own w' 21 1 v (flushD s).length (runesV (flushD s)) ∧ Chg w w' F ∧ (∃ F', RDec w' b [] F' ∧ ∀ k, F' k → F k ∨ w.heap.size ≤ k) ∧ ∀ k, blkOf v k → w.heap.size ≤ k := by
  have hD := h
  obtain ⟨v, hb, ho, rfl⟩ := h
  obtain ⟨ao, cap, rfl, _⟩ := ho.form
  have hc0 : w.cell? ⟨b, 0, none⟩ = some (.slice ao s.length cap) := by rw [hb.cell]; rfl
  have hf0 : w.frozen? ⟨b, 0, none⟩ = false := hb.free 0
  by_cases hs : s = []
  · subst hs
    have HD := Lib.hid hD
    simp only [List.length_nil] at hc0
    clear hD
    go_enter Try.func16, Try.ntmps16
    go_wp2
    go_ret
    exact ⟨_, rfl, World.ownsRow_nil _ _ _ _, Chg.refl _ _, ⟨_, HD.out, fun k hk => .inl hk⟩, fun k hk => by cases hk⟩
  · have hF : flushD s = [65533] := by unfold flushD; rw [if_neg hs]
    have hl : ((s.length : Int) == 0) = false := by simp; exact hs
    rw [hF]
    have HB := Lib.hid hb
    have HO := Lib.hid ho
    clear hF hD ho hb hs
    go_enter Try.func16, Try.ntmps16
    go_wp2
    go_ret
    refine ⟨_, rfl, Own.lit' w _ (by simp) 21 #[.int .i32 65533] (by decide), ((Chg.refl w _).setCell (.inl (.inl rfl)) _).alloc _, ⟨fun k => k = b ∨ blkOf (.slice none 0 0) k, ⟨.slice none 0 0, (HB.out.set 0 _).alloc _, World.ownsRow_nil _ _ _ _, rfl⟩, fun k hk => ?_⟩, fun k hk => ?_⟩
    · rcases hk with h | h
      · exact .inl (.inl h)
      · cases h
    · cases hk; exact Nat.le_refl _

/-- The decoder and the reference's, both of the law's own. -/
def RP (w0 w : World) (b : Nat) (s : List Int) (x : Nat) (t : List Int) : Prop :=
  ∃ F G, Dec w b s F ∧ RDec w x t G ∧ Chg w0 w nob ∧ (∀ k, F k → w0.heap.size ≤ k) ∧ (∀ k, G k → w0.heap.size ≤ k) ∧ ∀ k, F k → ¬ G k
section
variable {w0 w w' : World} {b x : Nat} {s t : List Int}
theorem RP.chg (h : RP w0 w b s x t) : Chg w0 w nob := by obtain ⟨_, _, _, _, h, _⟩ := h; exact h
theorem RP.left (h : RP w0 w b s x t) : DH w0 w b s := by obtain ⟨F, G, h1, h2, h3, h4, h5, h6⟩ := h; exact ⟨F, h1, h3, h4⟩
theorem RP.kept (h : RP w0 w b s x t) (hc : Chg w w' nob) : RP w0 w' b s x t := by
  obtain ⟨F, G, h1, h2, h3, h4, h5, h6⟩ := h
  exact ⟨F, G, h1.kept hc (fun _ _ => id), h2.kept hc (fun _ _ => id), h3.trans hc fun _ _ h => h, h4, h5, h6⟩
theorem RP.cell (h : RP w0 w b s x t) : ∃ ao cap, w.cell? ⟨x, 0, none⟩ = some (.slice ao t.length cap) := by
  obtain ⟨F, G, h1, ⟨v, hb, ho, rfl⟩, _⟩ := h
  obtain ⟨ao, cap, rfl, _⟩ := ho.form
  exact ⟨ao, cap, by rw [hb.cell]; rfl⟩
theorem RP.make (h : DH w0 w b s) : RP w0 (w.alloc (.cells #[.slice none 0 0] 29)) b s w.heap.size [] := by
  obtain ⟨F, h1, h2, h3⟩ := h
  refine ⟨F, _, h1.kept ((Chg.refl w nob).alloc _) (fun _ _ => id), ⟨_, Blk.new w _ _, World.ownsRow_nil _ _ _ _, rfl⟩, h2.alloc _, h3, ?_, ?_⟩
  · rintro k (rfl | hk)
    · exact h2.size
    · cases hk
  · rintro k hk (rfl | h)
    · have := h1.lt hk; omega
    · cases h
theorem rp_dwrite (h : RP w0 w b s x t) (hs : Waits s) (va : Value) (xs : List Int) (ha : Rd w0 1 va xs.length (bytesV xs)) (hx : ∀ x ∈ xs, 0 ≤ x ∧ x ≤ 255) (hl : xs.length ≤ 1000000) :
    Calls Try.prog 12 #[.pointer (some ⟨b, 0, none⟩), va] w fun e w' => ∃ v, e = .returned v ∧ Own w' 21 1 v (runD s xs).2.length (runesV (runD s xs).2) ∧ RP w0 w' b (runD s xs).1 x t := by
  obtain ⟨F, G, h1, h2, h3, h4, h5, h6⟩ := h
  refine (write_any w b F s va xs h1 hs (ha.kept h3 fun _ _ => id) (fun h0 k hk hF => by have := ha.lt (by simpa [bytesV] using h0) hk; have := h4 k hF; omega) hx hl).mono fun e w' ⟨v, he, ho, hc, ⟨F', hD, hF'⟩, hv⟩ => ⟨v, he, ho, ⟨F', G, hD, h2.kept hc (fun k hG hF => h6 k hF hG), h3.trans hc (fun i hi h => by have := h4 i h; omega), fun k hk => ?_, h5, fun k hk hG => ?_⟩⟩
  · rcases hF' k hk with h | h
    · exact h4 k h
    · exact Nat.le_trans h3.size h
  · rcases hF' k hk with h | h
    · exact h6 k h hG
    · have := h2.lt hG; omega
theorem rp_rwrite (h : RP w0 w b s x t) (ht : runD [] t = (t, [])) (va : Value) (xs : List Int) (ha : Rd w0 1 va xs.length (bytesV xs)) (hn : NilOk va) (hx : ∀ x ∈ t ++ xs, 0 ≤ x ∧ x ≤ 255) (htl : t.length ≤ 4) (hl : xs.length ≤ 500000) :
    Calls Try.prog 13 #[.pointer (some ⟨x, 0, none⟩), va] w fun e w' => ∃ v, e = .returned v ∧ Own w' 21 1 v (runD t xs).2.length (runesV (runD t xs).2) ∧ RP w0 w' b s x (runD t xs).1 ∧ (∀ (v : Value) (n : Nat) (ys : List Value), Own w 21 1 v n ys → Own w' 21 1 v n ys) := by
  obtain ⟨F, G, h1, h2, h3, h4, h5, h6⟩ := h
  refine (rwrite_any w x G t va xs h2 ht (ha.kept h3 fun _ _ => id) hn hx htl hl).mono fun e w' ⟨v, he, ho, hc, ⟨G', hD, hG'⟩, hv⟩ => ⟨v, he, ho, ⟨F, G', h1.kept hc (fun k hF hG => h6 k hF hG), hD, h3.trans hc (fun i hi h => by have := h5 i h; omega), h4, fun k hk => ?_, fun k hF hk => ?_⟩, fun v n ys hy => hy.kept hc (fun k hk => h2.apart hy hk)⟩
  · rcases hG' k hk with h | h
    · exact h5 k h
    · exact Nat.le_trans h3.size h
  · rcases hG' k hk with h | h
    · exact h6 k hF h
    · have := h1.lt hF; omega
theorem rp_dflush (h : RP w0 w b s x t) : Calls Try.prog 15 #[.pointer (some ⟨b, 0, none⟩)] w fun e w' => ∃ v, e = .returned v ∧ Own w' 21 1 v (flushD s).length (runesV (flushD s)) ∧ RP w0 w' b [] x t := by
  obtain ⟨F, G, h1, h2, h3, h4, h5, h6⟩ := h
  refine (flush_any w b s F h1).mono fun e w' ⟨v, he, ho, hc, ⟨F', hD, hF'⟩, hv⟩ => ⟨v, he, ho, ⟨F', G, hD, h2.kept hc (fun k hG hF => h6 k hF hG), h3.trans hc (fun i hi h => by have := h4 i h; omega), fun k hk => ?_, h5, fun k hk hG => ?_⟩⟩
  · rcases hF' k hk with h | h
    · exact h4 k h
    · exact Nat.le_trans h3.size h
  · rcases hF' k hk with h | h
    · exact h6 k h hG
    · have := h2.lt hG; omega
theorem rp_rflush (h : RP w0 w b s x t) : Calls Try.prog 16 #[.pointer (some ⟨x, 0, none⟩)] w fun e w' => ∃ v, e = .returned v ∧ Own w' 21 1 v (flushD t).length (runesV (flushD t)) ∧ RP w0 w' b s x [] ∧ (∀ (v : Value) (n : Nat) (ys : List Value), Own w 21 1 v n ys → Own w' 21 1 v n ys) := by
  obtain ⟨F, G, h1, h2, h3, h4, h5, h6⟩ := h
  refine (rflush_any w x t G h2).mono fun e w' ⟨v, he, ho, hc, ⟨G', hD, hG'⟩, hv⟩ => ⟨v, he, ho, ⟨F, G', h1.kept hc (fun k hF hG => h6 k hF hG), hD, h3.trans hc (fun i hi h => by have := h5 i h; omega), h4, fun k hk => ?_, fun k hF hk => ?_⟩, fun v n ys hy => hy.kept hc (fun k hk => h2.apart hy hk)⟩
  · rcases hG' k hk with h | h
    · exact h5 k h
    · exact Nat.le_trans h3.size h
  · rcases hG' k hk with h | h
    · exact h6 k hF h
    · have := h1.lt hF; omega
end
end Go.Proofs.Ytfcgjnmbbgioiaa
