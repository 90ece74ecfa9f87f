/-
  Package tabs: New and ClearAll; tikref.Ints.
-/
import Derived.Test.YtadpjgjkicmhiaaTabs3
namespace Go.Proofs.Ytadpjgjkicmhiaa
open Go.RowKit
set_option linter.unusedVariables false
set_option linter.unusedSimpArgs false
attribute [local go_sem ↓] run_min_two run_max_two

set_option maxHeartbeats 1000000 in
theorem new_any (w : World) (c : Int) (h1 : 1 ≤ c) (h2 : c ≤ 200) :
    Calls Try.prog 7 #[.int .i64 c] w fun e w' =>
      ∃ b F, e = .returned (.tuple #[.pointer (some ⟨b, 0, none⟩), .int .i64 0]) ∧ Stops w' b (fresh 0 c.toNat) F ∧ Chg w w' nob ∧ ∀ k, F k → w.heap.size ≤ k := by
  have hs : Stops (w.alloc (.cells #[.slice none 0 0] 48)) w.heap.size [] (fun k => k = w.heap.size ∨ blkOf (.slice none 0 0) k) :=
    ⟨.slice none 0 0, Blk.new w _ _, World.ownsRow_nil _ _ _ _, rfl, by simp⟩
  go_enter Try.func7, Try.ntmps7
  go_wp2_with (go_at_call 15; refine (resize_any _ _ _ _ _ hs h1 h2).mono ?_; rintro e w1 ⟨rfl, hu⟩)
  go_ret2
  obtain ⟨hch, F', hs', hF⟩ := hu
  refine ⟨w.heap.size, F', rfl, by simpa [resized] using hs', ((Chg.refl w nob).alloc _).trans hch (fun i hi h => ?_), fun k hk => ?_⟩
  · rcases h with h | h
    · omega
    · cases h
  · rcases hF k hk with (h | h) | h
    · omega
    · cases h
    · simp at h; omega

set_option maxHeartbeats 1000000 in
theorem resize_not (w : World) (b : Nat) (c : Int) (h1 : c < 1 ∨ 200 < c) :
    Calls Try.prog 15 #[.pointer (some ⟨b, 0, none⟩), .int .i64 c] w fun e w' => e = .returned (.int .i64 1) ∧ w' = w := by
  rcases h1 with h1 | h1
  · go_enter Try.func15, Try.ntmps15
    go_wp2
    go_ret
    exact ⟨rfl, rfl⟩
  · have h2 : ¬ c < 1 := by omega
    go_enter Try.func15, Try.ntmps15
    go_wp2
    go_ret
    exact ⟨rfl, rfl⟩
set_option maxHeartbeats 1000000 in
theorem new_not (w : World) (c : Int) (h1 : c < 1 ∨ 200 < c) :
    Calls Try.prog 7 #[.int .i64 c] w fun e w' =>
      e = .returned (.tuple #[.pointer none, .int .i64 1]) ∧ Chg w w' nob := by
  go_enter Try.func7, Try.ntmps7
  go_wp2_with (go_at_call 15; refine (resize_not _ _ _ h1).mono ?_; rintro e w1 ⟨rfl, rfl⟩)
  go_ret2
  exact ⟨rfl, (Chg.refl w nob).alloc _⟩

set_option maxHeartbeats 1000000 in
theorem clearAll_any (w : World) (b : Nat) (l : List Bool) (F : Nat → Prop) (h : Stops w b l F) (h1 : 1 ≤ l.length) :
    Calls Try.prog 8 #[.pointer (some ⟨b, 0, none⟩)] w fun e w' =>
      e = .returned (.tuple #[]) ∧ Upd (fun w F => Stops w b (List.replicate l.length false) F) F w w' := by
  obtain ⟨v, hb, ho, rfl, hl⟩ := h
  obtain ⟨ao, cap, rfl, hcap, hmax, hnone, hsome⟩ := ho.form
  cases ao with
  | none => have := (hnone rfl).1; omega
  | some a =>
    obtain ⟨g, rfl⟩ := hsome a rfl
    have hc0 : w.cell? ⟨b, 0, none⟩ = some (.slice (some ⟨g, 0, none⟩) l.length cap) := by rw [hb.cell]; rfl
    have hcl : ∀ ty, (Builtin.clear_ #[42] ty #[.slice (some ⟨g, 0, none⟩) l.length cap]).run Try.prog w = .ok (.tuple #[]) (w.setCells g 0 (List.replicate l.length (.bool false))) :=
      fun ty => Lib.run_clear_slice w 42 4 ty (.bool false) u_bools (fun w => by kernel_rfl) rfl rfl g 0 l.length cap h1 (fun j hj => by rw [Nat.zero_add, mapCell ho hj]; rfl) (fun j hj => by rw [Nat.zero_add]; exact ho.frozenAt j)
    have hne := ho.ne hb (by decide)
    clear hnone hsome
    go_enter Try.func8, Try.ntmps8
    go_wp2
    go_end0
    refine ⟨rfl, Chg.setCells (.inl (.inr rfl)) _ _ (Chg.refl w _), _, ⟨_, Blk.otherCells (fun h => hne (by rw [h]; rfl)) _ _ hb, ?_, rfl, by simpa using hl⟩, fun k hk => .inl hk⟩
    have := Own.setCells (List.replicate l.length (.bool false)) 0 ho
    rw [putL_eq _ _ _ (by simp), List.drop_eq_nil_of_le (by simp)] at this
    simpa using this

def intI (l : List Int) : List Value := l.map (Value.int .i64)

set_option maxHeartbeats 4000000 in
theorem ints_eq (w : World) (va vb : Value) (xs ys : List Int) (ha : Rd w 1 va xs.length (intI xs)) (hb : Rd w 1 vb ys.length (intI ys)) (hl : xs.length ≤ 140737488351232) (hl2 : ys.length ≤ 140737488351232) :
    Calls Try.prog 19 #[va, vb] w fun e w' => e = .returned (.bool (decide (xs = ys))) ∧ Chg w w' nob := by
  obtain ⟨a1, c1, rfl, hn1, _, hx1⟩ := ha
  obtain ⟨a2, c2, rfl, hn2, _, hx2⟩ := hb
  by_cases hlen : xs.length = ys.length
  · have hcA : ∀ wr, Chg w wr nob → ∀ j u, (intI xs)[j]? = some u → ∃ b o, a1 = some ⟨b, o, none⟩ ∧ wr.cell? ⟨b, o + j, none⟩ = some u := fun wr hch j u hu => by
      obtain ⟨b, o, h1, h2⟩ := hx1 j u hu
      exact ⟨b, o, h1, hch.cell h2 id⟩
    have hcB : ∀ wr, Chg w wr nob → ∀ j u, (intI ys)[j]? = some u → ∃ b o, a2 = some ⟨b, o, none⟩ ∧ wr.cell? ⟨b, o + j, none⟩ = some u := fun wr hch j u hu => by
      obtain ⟨b, o, h1, h2⟩ := hx2 j u hu
      exact ⟨b, o, h1, hch.cell h2 id⟩
    have HA := Lib.hid hcA
    have HB := Lib.hid hcB
    clear hcA hcB hx1 hx2
    have HL := Lib.hid hlen
    have hb1 : (((xs.length : Nat) : Int) != (ys.length : Nat)) = false := by rw [hlen]; simp
    rw [hlen] at hl hn1
    clear hlen
    go_enter Try.func19, Try.ntmps19
    go_wp2
    go_loopw [5] (fun i wr => ∃ k : Nat, k ≤ xs.length ∧ i = .int .i64 k ∧ Hid (xs.take k = ys.take k) ∧ Chg w wr nob) (fun i _ => xs.length - (intOf i).toNat)
    case atStart => exact ⟨0, Nat.zero_le _, rfl, rfl, Chg.refl _ _⟩
    case round =>
      obtain ⟨k, hk, rfl, HT, hch⟩ := hrel
      by_cases hkl : k < xs.length
      · have hky : k < ys.length := by rw [← HL.out]; exact hkl
        obtain ⟨b1, o1, rfl, hc1⟩ := HA.out wr hch k (.int .i64 (xs.getD k 0)) (by simp [intI, List.getD, hkl])
        obtain ⟨b2, o2, rfl, hc2⟩ := HB.out wr hch k (.int .i64 (ys.getD k 0)) (by simp [intI, List.getD, hky])
        have hki : (k : Int) < (xs.length : Int) := by omega
        have hkj : (k : Int) < (ys.length : Int) := by omega
        obtain ⟨x, hx⟩ : ∃ x, xs.getD k 0 = x := ⟨_, rfl⟩
        obtain ⟨y, hy⟩ : ∃ y, ys.getD k 0 = y := ⟨_, rfl⟩
        rw [hx] at hc1
        rw [hy] at hc2
        have HX := Lib.hid hx
        have HY := Lib.hid hy
        clear hx hy
        by_cases hxy : x = y
        · subst hxy
          go_wp2
          refine wp_one [3, 7] [] [] [0, 1, 2, 3, 4, 5, 6, 7, 8] rfl (by kernel_rfl) (fun _ _ _ _ _ h => h) ?_; simp only [List.map_cons, List.map_nil, List.getElem?_toArray, List.getElem?_cons_zero, List.getElem?_cons_succ]
          (repeat (first | (apply can0; (· rfl); (· rfl); (· (intro w'; first | (go_simp; with_reducible rfl) | (go_simp; done))); simp only [Act.put, List.setIfInBounds_toArray, List.set_cons_zero, List.set_cons_succ]) | (apply can1; (· rfl); (· rfl); (· (first | (go_simp; with_reducible rfl) | (go_simp; done))); simp only [Act.put, List.setIfInBounds_toArray, List.set_cons_zero, List.set_cons_succ]) | (apply canN; (· rfl); (· rfl); simp only [Act.put, List.setIfInBounds_toArray, List.set_cons_zero, List.set_cons_succ]) | (apply canN1; (· rfl); (· rfl); simp only [Act.put, List.setIfInBounds_toArray, List.set_cons_zero, List.set_cons_succ]) | (apply can0; (· rfl); (· (go_simp; done)); (· (intro w'; first | (go_simp; with_reducible rfl) | (go_simp; done))); simp only [Act.put, List.setIfInBounds_toArray, List.set_cons_zero, List.set_cons_succ]) | (apply can1; (· rfl); (· (go_simp; done)); (· (first | (go_simp; with_reducible rfl) | (go_simp; done))); simp only [Act.put, List.setIfInBounds_toArray, List.set_cons_zero, List.set_cons_succ]) | (apply canN; (· rfl); (· (go_simp; done)); simp only [Act.put, List.setIfInBounds_toArray, List.set_cons_zero, List.set_cons_succ]) | (apply canN1; (· rfl); (· (go_simp; done)); simp only [Act.put, List.setIfInBounds_toArray, List.set_cons_zero, List.set_cons_succ])))
          refine canE ?_
          go_wp2
          go_roundw
          case rel =>
            refine ⟨k + 1, by omega, by go_num, ?_, hch.drew⟩
            unfold Hid
            rw [List.take_succ_eq_append_getElem hkl, List.take_succ_eq_append_getElem hky, HT.out]
            have h1 := HX.out
            have h2 := HY.out
            simp [List.getD, hkl, hky] at h1 h2
            rw [h1, h2]
          case measure => simp [intOf]; omega
        · have hb2 : (x != y) = true := by simpa using hxy
          go_wp2
          refine wp_one [3, 7] [] [] [0, 1, 2, 3, 4, 5, 6, 7, 8] rfl (by kernel_rfl) (fun _ _ _ _ _ h => h) ?_; simp only [List.map_cons, List.map_nil, List.getElem?_toArray, List.getElem?_cons_zero, List.getElem?_cons_succ]
          (repeat (first | (apply can0; (· rfl); (· rfl); (· (intro w'; first | (go_simp; with_reducible rfl) | (go_simp; done))); simp only [Act.put, List.setIfInBounds_toArray, List.set_cons_zero, List.set_cons_succ]) | (apply can1; (· rfl); (· rfl); (· (first | (go_simp; with_reducible rfl) | (go_simp; done))); simp only [Act.put, List.setIfInBounds_toArray, List.set_cons_zero, List.set_cons_succ]) | (apply canN; (· rfl); (· rfl); simp only [Act.put, List.setIfInBounds_toArray, List.set_cons_zero, List.set_cons_succ]) | (apply canN1; (· rfl); (· rfl); simp only [Act.put, List.setIfInBounds_toArray, List.set_cons_zero, List.set_cons_succ]) | (apply can0; (· rfl); (· (go_simp; done)); (· (intro w'; first | (go_simp; with_reducible rfl) | (go_simp; done))); simp only [Act.put, List.setIfInBounds_toArray, List.set_cons_zero, List.set_cons_succ]) | (apply can1; (· rfl); (· (go_simp; done)); (· (first | (go_simp; with_reducible rfl) | (go_simp; done))); simp only [Act.put, List.setIfInBounds_toArray, List.set_cons_zero, List.set_cons_succ]) | (apply canN; (· rfl); (· (go_simp; done)); simp only [Act.put, List.setIfInBounds_toArray, List.set_cons_zero, List.set_cons_succ]) | (apply canN1; (· rfl); (· (go_simp; done)); simp only [Act.put, List.setIfInBounds_toArray, List.set_cons_zero, List.set_cons_succ])))
          refine canE ?_
          go_wp2
          go_ret
          refine ⟨?_, hch.drew⟩
          have : xs ≠ ys := fun h => hxy (by rw [← HX.out, ← HY.out, h])
          simp [this]
      · obtain rfl : k = xs.length := by omega
        go_wp2
        go_ret
        refine ⟨?_, hch⟩
        have h := HT.out
        rw [List.take_length, HL.out, List.take_length] at h
        simp [h]
  · have hb1 : ((xs.length : Int) = (ys.length : Int)) = False := by simp; omega
    clear hx1 hx2
    go_enter Try.func19, Try.ntmps19
    go_wp2
    go_ret
    have hd : decide (xs = ys) = false := by simp only [decide_eq_false_iff_not]; intro h; exact hlen (by rw [h])
    exact ⟨by rw [hd]; rfl, Chg.refl _ _⟩
end Go.Proofs.Ytadpjgjkicmhiaa
