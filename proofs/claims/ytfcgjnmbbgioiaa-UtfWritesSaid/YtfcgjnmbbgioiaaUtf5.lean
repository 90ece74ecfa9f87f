/-
  Chapter 3: the calls that the laws share.
-/
import Derived.Test.YtfcgjnmbbgioiaaUtf4
namespace Go.Proofs.Ytfcgjnmbbgioiaa
open Go.RowKit
set_option linter.unusedVariables false
set_option linter.unusedSimpArgs false

set_option maxHeartbeats 4000000 in
theorem runes_eq (w : World) (va vb : Value) (xs ys : List Int) (ha : Rd w 1 va xs.length (runesV xs)) (hb : Rd w 1 vb ys.length (runesV ys)) (hl : xs.length ≤ 140737488351232) (hl2 : ys.length ≤ 140737488351232) :
    Calls Try.prog 11 #[va, vb] w fun e w' => e = .returned (.bool (decide (xs = ys))) ∧ Chg w w' nob := by
  obtain ⟨a1, c1, rfl, hn1, _, hx1⟩ := ha
  obtain ⟨a2, c2, rfl, hn2, _, hx2⟩ := hb
  by_cases hlen : xs.length = ys.length
  · have hcA : ∀ wr, Chg w wr nob → ∀ j u, (runesV xs)[j]? = some u → ∃ b o, a1 = some ⟨b, o, none⟩ ∧ wr.cell? ⟨b, o + j, none⟩ = some u := fun wr hch j u hu => by
      obtain ⟨b, o, h1, h2⟩ := hx1 j u hu
      exact ⟨b, o, h1, hch.cell h2 id⟩
    have hcB : ∀ wr, Chg w wr nob → ∀ j u, (runesV ys)[j]? = some u → ∃ b o, a2 = some ⟨b, o, none⟩ ∧ wr.cell? ⟨b, o + j, none⟩ = some u := fun wr hch j u hu => by
      obtain ⟨b, o, h1, h2⟩ := hx2 j u hu
      exact ⟨b, o, h1, hch.cell h2 id⟩
    have HA := Lib.hid hcA
    have HB := Lib.hid hcB
    clear hcA hcB hx1 hx2
    have HL := Lib.hid hlen
    have hb1 : (((xs.length : Nat) : Int) != (ys.length : Nat)) = false := by rw [hlen]; simp
    rw [hlen] at hl hn1
    clear hlen
    go_enter Try.func11, Try.ntmps11
    go_wp2
    go_loopw [5] (fun i wr => ∃ k : Nat, k ≤ xs.length ∧ i = .int .i64 k ∧ Hid (xs.take k = ys.take k) ∧ Chg w wr nob) (fun i _ => xs.length - (intOf i).toNat)
    case atStart => exact ⟨0, Nat.zero_le _, rfl, rfl, Chg.refl _ _⟩
    case round =>
      obtain ⟨k, hk, rfl, HT, hch⟩ := hrel
      by_cases hkl : k < xs.length
      · have hky : k < ys.length := by rw [← HL.out]; exact hkl
        obtain ⟨b1, o1, rfl, hc1⟩ := HA.out wr hch k (.int .i32 (xs.getD k 0)) (by simp [runesV, List.getD, hkl])
        obtain ⟨b2, o2, rfl, hc2⟩ := HB.out wr hch k (.int .i32 (ys.getD k 0)) (by simp [runesV, List.getD, hky])
        have hki : (k : Int) < (xs.length : Int) := by omega
        have hkj : (k : Int) < (ys.length : Int) := by omega
        obtain ⟨x, hx⟩ : ∃ x, xs.getD k 0 = x := ⟨_, rfl⟩
        obtain ⟨y, hy⟩ : ∃ y, ys.getD k 0 = y := ⟨_, rfl⟩
        rw [hx] at hc1
        rw [hy] at hc2
        have HX := Lib.hid hx
        have HY := Lib.hid hy
        clear hx hy
        by_cases hxy : x = y
        · subst hxy
          go_wp2
          refine wp_one [3, 7] [] [] [0, 1, 2, 3, 4, 5, 6, 7, 8] rfl (by kernel_rfl) (fun _ _ _ _ _ h => h) ?_; simp only [List.map_cons, List.map_nil, List.getElem?_toArray, List.getElem?_cons_zero, List.getElem?_cons_succ]
          (repeat (first | (apply can0; (· rfl); (· rfl); (· (intro w'; first | (go_simp; with_reducible rfl) | (go_simp; done))); simp only [Act.put, List.setIfInBounds_toArray, List.set_cons_zero, List.set_cons_succ]) | (apply can1; (· rfl); (· rfl); (· (first | (go_simp; with_reducible rfl) | (go_simp; done))); simp only [Act.put, List.setIfInBounds_toArray, List.set_cons_zero, List.set_cons_succ]) | (apply canN; (· rfl); (· rfl); simp only [Act.put, List.setIfInBounds_toArray, List.set_cons_zero, List.set_cons_succ]) | (apply canN1; (· rfl); (· rfl); simp only [Act.put, List.setIfInBounds_toArray, List.set_cons_zero, List.set_cons_succ]) | (apply can0; (· rfl); (· (go_simp; done)); (· (intro w'; first | (go_simp; with_reducible rfl) | (go_simp; done))); simp only [Act.put, List.setIfInBounds_toArray, List.set_cons_zero, List.set_cons_succ]) | (apply can1; (· rfl); (· (go_simp; done)); (· (first | (go_simp; with_reducible rfl) | (go_simp; done))); simp only [Act.put, List.setIfInBounds_toArray, List.set_cons_zero, List.set_cons_succ]) | (apply canN; (· rfl); (· (go_simp; done)); simp only [Act.put, List.setIfInBounds_toArray, List.set_cons_zero, List.set_cons_succ]) | (apply canN1; (· rfl); (· (go_simp; done)); simp only [Act.put, List.setIfInBounds_toArray, List.set_cons_zero, List.set_cons_succ])))
          refine canE ?_
          go_wp2
          go_roundw
          case rel =>
            refine ⟨k + 1, by omega, by go_num, ?_, hch.drew⟩
            unfold Hid
            rw [List.take_succ_eq_append_getElem hkl, List.take_succ_eq_append_getElem hky, HT.out]
            have h1 := HX.out
            have h2 := HY.out
            simp [List.getD, hkl, hky] at h1 h2
            rw [h1, h2]
          case measure => simp [intOf]; omega
        · have hb2 : (x != y) = true := by simpa using hxy
          go_wp2
          refine wp_one [3, 7] [] [] [0, 1, 2, 3, 4, 5, 6, 7, 8] rfl (by kernel_rfl) (fun _ _ _ _ _ h => h) ?_; simp only [List.map_cons, List.map_nil, List.getElem?_toArray, List.getElem?_cons_zero, List.getElem?_cons_succ]
          (repeat (first | (apply can0; (· rfl); (· rfl); (· (intro w'; first | (go_simp; with_reducible rfl) | (go_simp; done))); simp only [Act.put, List.setIfInBounds_toArray, List.set_cons_zero, List.set_cons_succ]) | (apply can1; (· rfl); (· rfl); (· (first | (go_simp; with_reducible rfl) | (go_simp; done))); simp only [Act.put, List.setIfInBounds_toArray, List.set_cons_zero, List.set_cons_succ]) | (apply canN; (· rfl); (· rfl); simp only [Act.put, List.setIfInBounds_toArray, List.set_cons_zero, List.set_cons_succ]) | (apply canN1; (· rfl); (· rfl); simp only [Act.put, List.setIfInBounds_toArray, List.set_cons_zero, List.set_cons_succ]) | (apply can0; (· rfl); (· (go_simp; done)); (· (intro w'; first | (go_simp; with_reducible rfl) | (go_simp; done))); simp only [Act.put, List.setIfInBounds_toArray, List.set_cons_zero, List.set_cons_succ]) | (apply can1; (· rfl); (· (go_simp; done)); (· (first | (go_simp; with_reducible rfl) | (go_simp; done))); simp only [Act.put, List.setIfInBounds_toArray, List.set_cons_zero, List.set_cons_succ]) | (apply canN; (· rfl); (· (go_simp; done)); simp only [Act.put, List.setIfInBounds_toArray, List.set_cons_zero, List.set_cons_succ]) | (apply canN1; (· rfl); (· (go_simp; done)); simp only [Act.put, List.setIfInBounds_toArray, List.set_cons_zero, List.set_cons_succ])))
          refine canE ?_
          go_wp2
          go_ret
          refine ⟨?_, hch.drew⟩
          have : xs ≠ ys := fun h => hxy (by rw [← HX.out, ← HY.out, h])
          simp [this]
      · obtain rfl : k = xs.length := by omega
        go_wp2
        go_ret
        refine ⟨?_, hch⟩
        have h := HT.out
        rw [List.take_length, HL.out, List.take_length] at h
        simp [h]
  · have hb1 : ((xs.length : Int) = (ys.length : Int)) = False := by simp; omega
    clear hx1 hx2
    go_enter Try.func11, Try.ntmps11
    go_wp2
    go_ret
    have hd : decide (xs = ys) = false := by simp only [decide_eq_false_iff_not]; intro h; exact hlen (by rw [h])
    exact ⟨by rw [hd]; rfl, Chg.refl _ _⟩

/-- A decoder of the law's own. -/
def DH (w0 w : World) (b : Nat) (s : List Int) : Prop := ∃ F, Dec w b s F ∧ Chg w0 w nob ∧ ∀ k, F k → w0.heap.size ≤ k
section
variable {w0 w w' : World} {b : Nat} {s : List Int}
theorem DH.chg (h : DH w0 w b s) : Chg w0 w nob := by obtain ⟨_, _, h, _⟩ := h; exact h
theorem DH.kept (h : DH w0 w b s) (hc : Chg w w' nob) : DH w0 w' b s := by
  obtain ⟨F, h1, h2, h3⟩ := h
  exact ⟨F, h1.kept hc (fun _ _ => id), h2.trans hc fun _ _ h => h, h3⟩
theorem DH.from {w1 : World} (h1 : Chg w0 w1 nob) (h : DH w1 w b s) : DH w0 w b s := by
  obtain ⟨F, hs, hc, hF⟩ := h
  exact ⟨F, hs, h1.trans hc fun _ _ h => h, fun k hk => Nat.le_trans h1.size (hF k hk)⟩
theorem d_new (w : World) : Calls Try.prog 10 #[] w fun e w' => ∃ b, e = .returned (.pointer (some ⟨b, 0, none⟩)) ∧ DH w w' b [] :=
  (dnew_any w).mono fun e w' ⟨b, he, hc, F, hD, hF⟩ => ⟨b, he, F, hD, hc, hF⟩
theorem d_pending (h : DH w0 w b s) : Calls Try.prog 14 #[.pointer (some ⟨b, 0, none⟩)] w fun e w' => e = .returned (.int .i64 s.length) ∧ w' = w := by
  obtain ⟨F, h1, _⟩ := h
  exact pending_any w b s F h1
/-- What a call makes of a decoder of the law's own leaves what was there. -/
theorem DH.call {F : Nat → Prop} {s' : List Int} (hc : Chg w0 w nob) (hF : ∀ k, F k → w0.heap.size ≤ k) (hc2 : Chg w w' F) (h : ∃ F', Dec w' b s' F' ∧ ∀ k, F' k → F k ∨ w.heap.size ≤ k) : DH w0 w' b s' := by
  obtain ⟨F', hD, hF'⟩ := h
  refine ⟨F', hD, hc.trans hc2 (fun i hi h => by have := hF i h; omega), fun k hk => ?_⟩
  rcases hF' k hk with h | h
  · exact hF k h
  · exact Nat.le_trans hc.size h
/-- What lies in a row of whole numbers that is no byte's, or is older than the law, a decoder's call doesn't touch. -/
def Spare (w0 : World) (w w' : World) : Prop := (∀ (v : Value) (n : Nat) (ys : List Value), Own w 21 1 v n ys → Own w' 21 1 v n ys) ∧ (∀ b s, DH w0 w b s → True)
theorem d_flush (h : DH w0 w b s) : Calls Try.prog 15 #[.pointer (some ⟨b, 0, none⟩)] w fun e w' => ∃ v, e = .returned v ∧ Own w' 21 1 v (flushD s).length (runesV (flushD s)) ∧ DH w0 w' b [] ∧ (∀ (v : Value) (n : Nat) (ys : List Value), Own w 21 1 v n ys → Own w' 21 1 v n ys) ∧ Chg w0 w' nob := by
  obtain ⟨F, h1, h2, h3⟩ := h
  refine (flush_any w b s F h1).mono fun e w' ⟨v, he, ho, hc, hD, hv⟩ => ⟨v, he, ho, DH.call h2 h3 hc hD, fun v n ys hy => hy.kept hc (fun k hk => h1.apart hy hk), (DH.call h2 h3 hc hD).chg⟩
theorem d_write (h : DH w0 w b s) (hs : Waits s) (va : Value) (xs : List Int) (ha : Rd w 1 va xs.length (bytesV xs)) (hd : xs ≠ [] → ∀ F, Dec w b s F → (∀ k, F k → w0.heap.size ≤ k) → ∀ k, blkOf va k → ¬ F k) (hx : ∀ x ∈ xs, 0 ≤ x ∧ x ≤ 255) (hl : xs.length ≤ 1000000) :
    Calls Try.prog 12 #[.pointer (some ⟨b, 0, none⟩), va] w fun e w' => ∃ v, e = .returned v ∧ Own w' 21 1 v (runD s xs).2.length (runesV (runD s xs).2) ∧ DH w0 w' b (runD s xs).1 ∧ (∀ (v : Value) (n : Nat) (ys : List Value), Own w 21 1 v n ys → Own w' 21 1 v n ys) ∧ Chg w0 w' nob ∧
      ∃ F, Dec w b s F ∧ (∀ k, F k → w0.heap.size ≤ k) ∧ Chg w w' F := by
  obtain ⟨F, h1, h2, h3⟩ := h
  refine (write_any w b F s va xs h1 hs ha (fun h0 => hd h0 F h1 h3) hx hl).mono fun e w' ⟨v, he, ho, hc, hD, hv⟩ => ⟨v, he, ho, DH.call h2 h3 hc hD, fun v n ys hy => hy.kept hc (fun k hk => h1.apart hy hk), (DH.call h2 h3 hc hD).chg, F, h1, h3, hc⟩
end

theorem Dec.inj {w : World} {b : Nat} {s s' : List Int} {F F' : Nat → Prop} (h : Dec w b s F) (h' : Dec w b s' F') : F = F' := by
  obtain ⟨v, hb, _, rfl, _⟩ := h
  obtain ⟨v', hb', _, rfl, _⟩ := h'
  have := (hb.inj hb').2
  simp at this
  rw [this]
theorem Dec.lt {w : World} {b : Nat} {s : List Int} {F : Nat → Prop} (h : Dec w b s F) {k : Nat} (hk : F k) : k < w.heap.size := by
  obtain ⟨v, hb, ho, rfl, _⟩ := h
  rcases hk with rfl | hk
  · exact hb.lt
  · exact ho.lt hk
/-- What was made behind a decoder is none of its own. -/
theorem DH.made {w0 w w' : World} {b : Nat} {s : List Int} (h : DH w0 w b s) (hc : Chg w w' nob) {v : Value} (hv : ∀ k, blkOf v k → w.heap.size ≤ k) : ∀ F, Dec w' b s F → (∀ k, F k → w0.heap.size ≤ k) → ∀ k, blkOf v k → ¬ F k := by
  intro F hF _ k hk hf
  obtain ⟨F0, h0, _⟩ := h
  have := hF.inj (h0.kept hc (fun _ _ => id))
  subst this
  have := h0.lt hf
  have := hv k hk
  omega
/-- What is older than the law is none of its own. -/
theorem DH.old {w0 w : World} {b : Nat} {s : List Int} {v : Value} (hv : ∀ k, blkOf v k → k < w0.heap.size) : ∀ F, Dec w b s F → (∀ k, F k → w0.heap.size ≤ k) → ∀ k, blkOf v k → ¬ F k := fun F _ hF k hk hf => by have := hv k hk; have := hF k hf; omega

theorem first_bytes : runD [] [226, 130, 65, 240, 128, 226] = ([226], [65533, 65, 65533, 65533]) := by decide
end Go.Proofs.Ytfcgjnmbbgioiaa
