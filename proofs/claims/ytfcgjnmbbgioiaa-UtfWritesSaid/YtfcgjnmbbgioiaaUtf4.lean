/-
  Package utf: Write, Flush, New, Pending.
-/
import Derived.Test.YtfcgjnmbbgioiaaUtf3
namespace Go.Proofs.Ytfcgjnmbbgioiaa
open Go.RowKit
set_option linter.unusedVariables false
set_option linter.unusedSimpArgs false

/-- Bytes one by one: what waits in the end, and all signs. -/
def runD (s : List Int) : List Int → List Int × List Int
  | [] => (s, [])
  | c :: r => ((runD (takeD s c).1 r).1, (takeD s c).2 ++ (runD (takeD s c).1 r).2)
theorem runD_append (s : List Int) : ∀ (a b : List Int), runD s (a ++ b) = ((runD (runD s a).1 b).1, (runD s a).2 ++ (runD (runD s a).1 b).2)
  | [], b => by simp [runD]
  | c :: a, b => by simp [runD, runD_append (takeD s c).1 a b]
theorem takeF_waits (s : List Int) (c : Int) (h : s = [] ∨ Waits s) : Waits (takeF s c).1 := by
  unfold takeF
  split
  · exact .inl rfl
  · split
    · exact .inl rfl
    · rename_i h0 h1
      refine .inr ?_
      have hc := lenB_le c
      rcases h with rfl | rfl | h
      · simp at h0 h1 ⊢; omega
      · simp at h0 h1 ⊢; omega
      · cases s with
        | nil => simp at h0 h1 ⊢; omega
        | cons x r => simp at h0 h1 h ⊢; omega
theorem takeD_waits (s : List Int) (c : Int) (h : Waits s) : Waits (takeD s c).1 := by
  unfold takeD
  split
  · exact takeF_waits [] c (.inl rfl)
  · exact takeF_waits s c (.inr h)
theorem takeD_len (s : List Int) (c : Int) : (takeD s c).2.length ≤ 2 := by
  have h1 : ∀ s, (takeF s c).2.length ≤ 1 := fun s => by unfold takeF; (repeat' split) <;> simp
  unfold takeD
  split
  · have := h1 []; simp; omega
  · have := h1 s; omega
theorem runD_waits : ∀ (l s : List Int), Waits s → Waits (runD s l).1
  | [], s, h => h
  | c :: r, s, h => runD_waits r _ (takeD_waits s c h)
theorem runD_len : ∀ (l s : List Int), (runD s l).2.length ≤ 2 * l.length
  | [], s => by simp [runD]
  | c :: r, s => by have := runD_len r (takeD s c).1; have := takeD_len s c; simp [runD]; omega
theorem runD_snoc (s l : List Int) (c : Int) : runD s (l ++ [c]) = ((takeD (runD s l).1 c).1, (runD s l).2 ++ (takeD (runD s l).1 c).2) := by
  rw [runD_append]; simp [runD]

theorem Dec.apart {w : World} {b : Nat} {s : List Int} {F : Nat → Prop} {v : Value} {n : Nat} {ys : List Value} (h : Dec w b s F) (ho : Own w 21 1 v n ys) {k : Nat} (hk : blkOf v k) : ¬ F k := by
  obtain ⟨u, hb, hu, rfl, _⟩ := h
  rintro (rfl | hf)
  · exact ho.ne hb (by decide) hk
  · obtain ⟨c1, h1⟩ := ho.row hk
    obtain ⟨c2, h2⟩ := hu.row hf
    exact absurd (h1.inj h2).1 (by decide)
theorem take_snoc {α : Type} {l : List α} {k : Nat} (h : k < l.length) (d : α) : l.take (k + 1) = l.take k ++ [l.getD k d] := by
  rw [List.take_succ_eq_append_getElem h]; simp [List.getD, h]
set_option maxHeartbeats 4000000 in
theorem write_any (w : World) (b : Nat) (F : Nat → Prop) (s : List Int) (va : Value) (xs : List Int) (h : Dec w b s F) (hs : Waits s) (ha : Rd w 1 va xs.length (bytesV xs)) (hd : xs ≠ [] → ∀ k, blkOf va k → ¬ F k)
    (hx : ∀ x ∈ xs, 0 ≤ x ∧ x ≤ 255) (hl : xs.length ≤ 1000000) :
    Calls Try.prog 12 #[.pointer (some ⟨b, 0, none⟩), va] w fun e w' =>
      ∃ v, e = .returned v ∧ Own w' 21 1 v (runD s xs).2.length (runesV (runD s xs).2) ∧ Chg w w' F ∧ (∃ F', Dec w' b (runD s xs).1 F' ∧ ∀ k, F' k → F k ∨ w.heap.size ≤ k) ∧ ∀ k, blkOf v k → w.heap.size ≤ k := by
  obtain ⟨a1, c1, rfl, hn1, hlen1, hx1⟩ := ha
  have hcell : ∀ k, k < xs.length → ∃ g o, a1 = some ⟨g, o, none⟩ ∧ ¬ F g ∧ w.cell? ⟨g, o + k, none⟩ = some (.int .u8 (xs.getD k 0)) := fun k hk => by
    obtain ⟨g, o, h1, h2⟩ := hx1 k (.int .u8 (xs.getD k 0)) (by simp [bytesV, List.getD, hk])
    exact ⟨g, o, h1, hd (by intro hn; rw [hn] at hk; simp at hk) g (by rw [h1]; rfl), h2⟩
  have hby : ∀ k, k < xs.length → 0 ≤ xs.getD k 0 ∧ xs.getD k 0 ≤ 255 := fun k hk => hx _ (by simp [List.getD, hk])
  have HC := Lib.hid hcell
  have HB := Lib.hid hby
  have HD := Lib.hid h
  have HW := Lib.hid hs
  clear hcell hby hx hd hx1 h hlen1 hs
  go_enter Try.func12, Try.ntmps12
  go_wp2
  go_loopw [5, 10] (fun v i wr => ∃ k : Nat, k ≤ xs.length ∧ i = .int .i64 k ∧ Own wr 21 1 v (runD s (xs.take k)).2.length (runesV (runD s (xs.take k)).2) ∧ (∀ x, blkOf v x → w.heap.size ≤ x) ∧ Chg w wr F ∧
      ∃ F', Dec wr b (runD s (xs.take k)).1 F' ∧ ∀ x, F' x → F x ∨ w.heap.size ≤ x)
    (fun _ i _ => xs.length - (intOf i).toNat)
  case atStart => exact ⟨0, Nat.zero_le _, rfl, World.ownsRow_nil w 0 21 1, fun x hx => (by cases hx), Chg.refl _ _, F, HD.out, fun x hx => .inl hx⟩
  case round =>
    obtain ⟨k, hk, rfl, hor, hfo, hch, F', hDr, hF'⟩ := hrel
    have HH := Lib.hid hch
    have HDr := Lib.hid hDr
    have HF' := Lib.hid hF'
    have HFO := Lib.hid hfo
    clear hch hDr hF' hfo
    by_cases hkl : k < xs.length
    · have hkn : (k : Int) < (xs.length : Int) := by omega
      obtain ⟨g, o, rfl, hng, hcx⟩ := HC.out k hkl
      have hcr := HH.out.cell hcx hng
      have hxb := HB.out k hkl
      have hst := runD_snoc s (xs.take k) (xs.getD k 0)
      rw [← take_snoc hkl] at hst
      have hwt := runD_waits (xs.take k) s HW.out
      have hle := runD_len (xs.take k) s
      rw [List.length_take] at hle
      generalize xs.getD k 0 = c at *
      have HST := Lib.hid hst
      have HWT := Lib.hid hwt
      clear hst hwt hcx
      generalize (runD s (xs.take k)).1 = s1 at *
      generalize (runD s (xs.take k)).2 = o1 at *
      have ht2 := takeD_len s1 c
      obtain ⟨⟨s2, o2⟩, ht⟩ : ∃ p, takeD s1 c = p := ⟨_, rfl⟩
      rw [ht] at ht2
      have HT := Lib.hid ht
      clear ht
      go_wp2_with fail
      go_at_call 21
      refine (take_any wr b F' s1 c HDr.out HWT.out.len hxb).mono ?_
      rw [HT.out]
      rintro e w2 ⟨v2, rfl, ho2, hc2, ⟨F2, hD2, hF2⟩, hf2⟩
      simp only at ho2 hD2
      have hL := hor.kept hc2 (fun k hk => HDr.out.apart hor hk)
      obtain ⟨a4, c4, rfl, _, _, hn4, _⟩ := ho2.form
      have hr4 := ho2.rd
      have hnews : Hid (∀ a, a4 = some a → ∀ j u, (runesV o2)[j]? = some u → w2.cell? (a.add j) = some u) := fun a ha j u hu => by
        obtain ⟨b', o', h1, h2⟩ := hr4.cell hu
        rw [ha] at h1
        cases h1
        rw [Addr.add_lit]; exact h2
      have hone : Hid (∀ u ∈ runesV o2, u.oneCell' = true) := fun u hu => by obtain ⟨x, _, rfl⟩ := List.mem_map.1 hu; rfl
      have HN4 := Lib.hid hn4
      have HD2 := Lib.hid hD2
      have HF2 := Lib.hid hF2
      have HC2 := Lib.hid hc2
      clear hn4 hr4 hD2 hF2 hf2 hc2 ho2 hor hcr
      go_wp2_with (at_builtin; refine wpList_app rfl (.tmp 14) (.tmp 17) 31 rfl 21 (.int .i32 0) 1 4 i_rune u_runes rfl (by decide) _ o1.length _ rfl hL a4 o2.length c4 (runesV o2) rfl HN4.out (by simp [runesV]) hnews.out hone.out (by unfold maxLen; omega) (by omega) ?_)
      intro v5 w5 ho5 hch5 hfo5
      have HO5 := Lib.hid ho5
      have HC5 := Lib.hid hch5
      have HF5 := Lib.hid hfo5
      clear ho5 hch5 hfo5
      go_wp2
      go_roundw
      case rel =>
        refine ⟨k + 1, by omega, by go_num, ?_, fun x hx => ?_, ?_, F2, ?_, fun x hx => ?_⟩
        · rw [HST.out, HT.out]
          have := HO5.out
          simpa [runesV] using this
        · rcases HF5.out x hx with h | h
          · exact HFO.out x h
          · exact Nat.le_trans (Nat.le_trans HH.out.size HC2.out.size) h
        · refine (HH.out.trans HC2.out (fun i hi h => ?_)).trans HC5.out (fun i hi h => ?_)
          · rcases HF'.out i h with h | h
            · exact h
            · omega
          · have := HFO.out i h; omega
        · rw [HST.out, HT.out]
          exact HD2.out.kept HC5.out (fun k hk hf => HD2.out.apart hL hf hk)
        · rcases HF2.out x hx with h | h
          · exact HF'.out x h
          · exact .inr (Nat.le_trans HH.out.size h)
      case measure => (simp [intOf] <;> omega)
    · obtain rfl : k = xs.length := by omega
      go_wp2
      go_ret
      rw [List.take_length] at hor
      have h1 := HDr.out
      rw [List.take_length] at h1
      exact ⟨_, rfl, hor, HH.out, ⟨F', h1, HF'.out⟩, HFO.out⟩

theorem dnew_any (w : World) : Calls Try.prog 10 #[] w fun e w' => ∃ b, e = .returned (.pointer (some ⟨b, 0, none⟩)) ∧ Chg w w' nob ∧ ∃ F, Dec w' b [] F ∧ ∀ k, F k → w.heap.size ≤ k := by
  go_enter Try.func10, Try.ntmps10
  go_wp2
  go_ret
  refine ⟨w.heap.size, rfl, (Chg.refl w nob).alloc _, fun k => k = w.heap.size ∨ blkOf (.slice none 0 0) k, ⟨.slice none 0 0, Blk.new w _ _, World.ownsRow_nil _ _ _ _, rfl, by simp, by simp⟩, fun k hk => ?_⟩
  rcases hk with h | h
  · omega
  · cases h
theorem pending_any (w : World) (b : Nat) (s : List Int) (F : Nat → Prop) (h : Dec w b s F) : Calls Try.prog 14 #[.pointer (some ⟨b, 0, none⟩)] w fun e w' => e = .returned (.int .i64 s.length) ∧ w' = w := by
  obtain ⟨v, hb, ho, rfl, hl⟩ := h
  obtain ⟨ao, cap, rfl, _⟩ := ho.form
  have hc0 : w.cell? ⟨b, 0, none⟩ = some (.slice ao s.length cap) := by rw [hb.cell]; rfl
  go_enter Try.func14, Try.ntmps14
  go_wp2
  go_ret
  exact ⟨rfl, rfl⟩

def flushD (s : List Int) : List Int := if s = [] then [] else [65533]
set_option maxHeartbeats 1000000 in
theorem flush_any (w : World) (b : Nat) (s : List Int) (F : Nat → Prop) (h : Dec w b s F) : Calls Try.prog 15 #[.pointer (some ⟨b, 0, none⟩)] w fun e w' =>
    ∃ v, e = .returned v ∧ Own w' 21 1 v (flushD s).length (runesV (flushD s)) ∧ Chg w w' F ∧ (∃ F', Dec w' b [] F' ∧ ∀ k, F' k → F k ∨ w.heap.size ≤ k) ∧ ∀ k, blkOf v k → w.heap.size ≤ k := by
  have hD := h
  obtain ⟨v, hb, ho, rfl, hl, _⟩ := h
  obtain ⟨ao, cap, rfl, _⟩ := ho.form
  have hc0 : w.cell? ⟨b, 0, none⟩ = some (.slice ao s.length cap) := by rw [hb.cell]; rfl
  have hf0 : w.frozen? ⟨b, 0, none⟩ = false := hb.free 0
  by_cases hs : s = []
  · subst hs
    have HD := Lib.hid hD
    simp only [List.length_nil] at hc0
    clear hD
    go_enter Try.func15, Try.ntmps15
    go_wp2
    go_ret
    exact ⟨_, rfl, World.ownsRow_nil _ _ _ _, Chg.refl _ _, ⟨_, HD.out, fun k hk => .inl hk⟩, fun k hk => by cases hk⟩
  · have hF : flushD s = [65533] := by unfold flushD; rw [if_neg hs]
    rw [hF]
    have hs1 : ((s.length : Int) == 0) = false := by simpa using hs
    have HB := Lib.hid hb
    clear hD hF hs ho hb
    go_enter Try.func15, Try.ntmps15
    go_wp2
    go_ret
    refine ⟨_, rfl, Own.lit' w _ (by simp) 21 #[.int .i32 65533] (by decide), ((Chg.refl w _).setCell (.inl (.inl rfl)) _).alloc _, ⟨fun k => k = b ∨ blkOf (.slice none 0 0) k, ⟨.slice none 0 0, (HB.out.set 0 _).alloc _, World.ownsRow_nil _ _ _ _, rfl, by simp, by simp⟩, fun k hk => ?_⟩, fun k hk => ?_⟩
    · rcases hk with h | h
      · exact .inl (.inl h)
      · cases h
    · cases hk; exact Nat.le_refl _
end Go.Proofs.Ytfcgjnmbbgioiaa
