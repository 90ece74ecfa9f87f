/-
  Chapter 3: first.
-/
import Derived.Test.YtfcgjnmbbgioiaaUtf5
namespace Go.Proofs.Ytfcgjnmbbgioiaa
open Go.RowKit
set_option linter.unusedVariables false
set_option linter.unusedSimpArgs false

set_option maxRecDepth 100000 in
set_option maxHeartbeats 8000000 in
theorem ufirst_any (w : World) : Calls Try.prog 9 #[] w fun e w' => e = .returned (.bool true) ∧ Chg w w' nob := by
  go_enter Try.func9, Try.ntmps9
  go_wp2_with fail
  go_at_call 10
  refine (d_new w).mono ?_
  rintro e w1 ⟨b, rfl, hD⟩
  have HD := Lib.hid hD
  clear hD
  go_wp2_with fail
  go_at_call 12
  have hc2 : Chg w1 (w1.alloc (.cells #[.int .u8 226, .int .u8 130, .int .u8 65, .int .u8 240, .int .u8 128, .int .u8 226] 5)) nob := (Chg.refl w1 nob).alloc _
  refine (d_write (HD.out.kept hc2) (Or.inl rfl) _ [226, 130, 65, 240, 128, 226] (Own.lit w1 _ _ (by decide)).rd (fun _ => HD.out.made hc2 (fun k hk => by cases hk; exact Nat.le_refl _)) (by decide) (by decide)).mono ?_
  rw [first_bytes]
  rintro e w2 ⟨v, rfl, ho, hD2, -, -, -⟩
  have HD2 := Lib.hid hD2
  clear hD2 hc2 HD
  go_wp2_with fail
  go_at_call 11
  refine (runes_eq (w2.alloc _) v _ [65533, 65, 65533, 65533] [65533, 65, 65533, 65533] (ho.kept ((Chg.refl w2 nob).alloc _) (fun _ _ => id)).rd (Own.lit w2 21 #[.int .i32 65533, .int .i32 65, .int .i32 65533, .int .i32 65533] (by decide)).rd (by decide) (by decide)).mono ?_
  rintro e w3 ⟨rfl, hc3⟩
  have HD3 := Lib.hid (HD2.out.kept (((Chg.refl w2 nob).alloc _).trans hc3 (fun _ _ h => h)))
  clear hc3 HD2
  go_wp2_with fail
  go_at_call 14
  refine (d_pending HD3.out).mono ?_
  rintro e w' ⟨rfl, rfl⟩
  go_wp2_with fail
  go_at_call 15
  refine (d_flush HD3.out).mono ?_
  rintro e w4 ⟨v4, rfl, ho4, hD4, -, -⟩
  have HD4 := Lib.hid hD4
  have ho4' : Own w4 21 1 v4 1 (runesV [65533]) := ho4
  clear hD4 HD3 ho4
  go_wp2_with fail
  go_at_call 11
  refine (runes_eq (w4.alloc _) v4 _ [65533] [65533] (ho4'.kept ((Chg.refl w4 nob).alloc _) (fun _ _ => id)).rd (Own.lit w4 21 #[.int .i32 65533] (by decide)).rd (by decide) (by decide)).mono ?_
  rintro e w5 ⟨rfl, hc5⟩
  have HD5 := Lib.hid (HD4.out.kept (((Chg.refl w4 nob).alloc _).trans hc5 (fun _ _ h => h)))
  clear hc5 HD4
  go_wp2_with fail
  go_at_call 14
  refine (d_pending HD5.out).mono ?_
  rintro e w' ⟨rfl, rfl⟩
  go_wp2_with fail
  go_at_call 17
  refine (size_any _ 8364).mono ?_
  rintro e w' ⟨rfl, rfl⟩
  go_wp2_with fail
  go_ret
  exact ⟨rfl, HD5.out.chg⟩

theorem Rd.lt {w : World} {size : Nat} {v : Value} {n : Nat} {xs : List Value} (h : Rd w size v n xs) (hx : xs ≠ []) {k : Nat} (hk : blkOf v k) : k < w.heap.size := by
  obtain ⟨ao, cap, rfl, h1, h2, h3⟩ := h
  cases xs with
  | nil => exact absurd rfl hx
  | cons u us =>
    obtain ⟨b, o, rfl, hc⟩ := h3 0 u rfl
    cases hk
    exact World.block_lt_of_cell? w _ hc

/-- Two decoders of the law's own. -/
def DD (w0 w : World) (b : Nat) (s : List Int) (x : Nat) (t : List Int) : Prop :=
  ∃ F G, Dec w b s F ∧ Dec w x t G ∧ Chg w0 w nob ∧ (∀ k, F k → w0.heap.size ≤ k) ∧ (∀ k, G k → w0.heap.size ≤ k) ∧ ∀ k, F k → ¬ G k
section
variable {w0 w w' : World} {b x : Nat} {s t : List Int}
theorem DD.chg (h : DD w0 w b s x t) : Chg w0 w nob := by obtain ⟨_, _, _, _, h, _⟩ := h; exact h
theorem DD.left (h : DD w0 w b s x t) : DH w0 w b s := by obtain ⟨F, G, h1, h2, h3, h4, h5, h6⟩ := h; exact ⟨F, h1, h3, h4⟩
theorem DD.symm (h : DD w0 w b s x t) : DD w0 w x t b s := by obtain ⟨F, G, h1, h2, h3, h4, h5, h6⟩ := h; exact ⟨G, F, h2, h1, h3, h5, h4, fun k h h' => h6 k h' h⟩
theorem DD.right (h : DD w0 w b s x t) : DH w0 w x t := h.symm.left
theorem DD.kept (h : DD w0 w b s x t) (hc : Chg w w' nob) : DD w0 w' b s x t := by
  obtain ⟨F, G, h1, h2, h3, h4, h5, h6⟩ := h
  exact ⟨F, G, h1.kept hc (fun _ _ => id), h2.kept hc (fun _ _ => id), h3.trans hc fun _ _ h => h, h4, h5, h6⟩
/-- What changes a row of whole numbers that is no decoder's leaves both. -/
theorem DD.row (h : DD w0 w b s x t) {v : Value} {n : Nat} {ys : List Value} (ho : Own w 21 1 v n ys) (hv : ∀ k, blkOf v k → w0.heap.size ≤ k) (hc : Chg w w' (blkOf v)) : DD w0 w' b s x t := by
  obtain ⟨F, G, h1, h2, h3, h4, h5, h6⟩ := h
  exact ⟨F, G, h1.kept hc (fun k hF hb => h1.apart ho hb hF), h2.kept hc (fun k hF hb => h2.apart ho hb hF), h3.trans hc (fun i hi h => by have := hv i h; omega), h4, h5, h6⟩
theorem DD.make (h : DH w0 w b s) (h' : DH w w' x t) : DD w0 w' b s x t := by
  obtain ⟨F, h1, h2, h3⟩ := h
  obtain ⟨G, k1, k2, k3⟩ := h'
  exact ⟨F, G, h1.kept k2 (fun _ _ => id), k1, h2.trans k2 (fun _ _ h => h), h3, fun k hk => Nat.le_trans h2.size (k3 k hk), fun k hF hG => by have := h1.lt hF; have := k3 k hG; omega⟩
theorem dd_write (h : DD w0 w b s x t) (hs : Waits s) (va : Value) (xs : List Int) (ha : Rd w0 1 va xs.length (bytesV xs)) (hx : ∀ x ∈ xs, 0 ≤ x ∧ x ≤ 255) (hl : xs.length ≤ 1000000) :
    Calls Try.prog 12 #[.pointer (some ⟨b, 0, none⟩), va] w fun e w' => ∃ v, e = .returned v ∧ Own w' 21 1 v (runD s xs).2.length (runesV (runD s xs).2) ∧ DD w0 w' b (runD s xs).1 x t ∧ (∀ (v : Value) (n : Nat) (ys : List Value), Own w 21 1 v n ys → Own w' 21 1 v n ys) ∧ (∀ k, blkOf v k → w.heap.size ≤ k) ∧ w.heap.size ≤ w'.heap.size := by
  obtain ⟨F, G, h1, h2, h3, h4, h5, h6⟩ := h
  refine (write_any w b F s va xs h1 hs (ha.kept h3 fun _ _ => id) (fun h0 k hk hF => by have := ha.lt (by simpa [bytesV] using h0) hk; have := h4 k hF; omega) hx hl).mono fun e w' ⟨v, he, ho, hc, ⟨F', hD, hF'⟩, hv⟩ => ⟨v, he, ho, ⟨F', G, hD, h2.kept hc (fun k hG hF => h6 k hF hG), h3.trans hc (fun i hi h => by have := h4 i h; omega), fun k hk => ?_, h5, fun k hk hG => ?_⟩, fun v n ys hy => hy.kept hc (fun k hk => h1.apart hy hk), hv, hc.size⟩
  · rcases hF' k hk with h | h
    · exact h4 k h
    · exact Nat.le_trans h3.size h
  · rcases hF' k hk with h | h
    · exact h6 k h hG
    · have := h2.lt hG; omega
end

/-- Where a slice of a slice begins. -/
def addS (a : Option Addr) (cap l : Nat) : Option Addr := if cap = l then a else a.map (·.add l)
theorem addS_blk {a : Option Addr} {cap l m n c d k : Nat} (h : blkOf (.slice (addS a cap l) m c) k) : blkOf (.slice a n d) k := by
  cases a with
  | none => unfold addS at h; split at h <;> cases h
  | some x =>
    unfold addS at h
    split at h
    · exact h
    · have hb : (x.add l).block = x.block := by unfold Addr.add; split <;> rfl
      simpa [blkOf, Value.ownBlock, hb] using h
theorem Rd.cut {w : World} {a : Option Addr} {len cap l m : Nat} {xs : List Value} (h : Rd w 1 (.slice a len cap) len xs) (hl : l ≤ m) (hm : m ≤ len) :
    Rd w 1 (.slice (addS a cap l) (m - l) (cap - l)) (m - l) ((xs.take m).drop l) := by
  obtain ⟨ao, cap', hv, h1, h2, h3⟩ := h
  cases hv
  refine ⟨_, _, rfl, by omega, by simp; omega, fun j u hu => ?_⟩
  have hj := (List.getElem?_eq_some_iff.1 hu).1
  simp at hj
  rw [List.getElem?_drop, List.getElem?_take_of_lt (by omega)] at hu
  obtain ⟨g, o, rfl, hc⟩ := h3 _ u hu
  by_cases hcl : cap = l
  · omega
  · refine ⟨g, o + l, by simp [addS, hcl, Addr.add_lit], by rw [Nat.add_assoc]; exact hc⟩
theorem run_cut_h (a : Option Addr) (len cap : Nat) (k : IntKind) (h : Int) (w : World) (h0 : 0 ≤ h) (h2 : h ≤ cap) :
    (Instr.slice 22 (.slice a len cap) none (some (.int k h)) none).run Try.prog w = .ok (.slice (addS a cap 0) h.toNat cap) w := by
  rw [run_slice_h w 22 a len cap u_bytes k h h0 h2]
  rfl
theorem run_cut_l (a : Option Addr) (len cap : Nat) (k : IntKind) (l : Int) (w : World) (h0 : 0 ≤ l) (h2 : l ≤ len) :
    (Instr.slice 22 (.slice a len cap) (some (.int k l)) none none).run Try.prog w = .ok (.slice (addS a cap l.toNat) (len - l.toNat) (cap - l.toNat)) w := by
  rw [run_slice_l w 22 a len cap u_bytes k l h0 h2]
  have : (sizeOf (Try.prog.elem 22)).run Try.prog w = .ok 1 w := rfl
  rw [this]
  simp [Result.andThen, sliced, addS]
end Go.Proofs.Ytfcgjnmbbgioiaa
