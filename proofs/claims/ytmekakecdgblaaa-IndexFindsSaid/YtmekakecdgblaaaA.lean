
/-
  Bytes to be read, in one word.
-/
import Derived.Test.YtmekakecdgblaaaNil
namespace Go.Proofs.Ytmekakecdgblaaa
open Go.RowKit
set_option linter.unusedVariables false
set_option linter.unusedSimpArgs false

/-- v is a slice of these bytes, to be read. -/
structure By (w : World) (v : Value) (L : List Int) : Prop where
  rd : Rd w 1 v L.length (bytesV L)
  nil : NilOk v
  byte : ∀ x ∈ L, 0 ≤ x ∧ x ≤ 255
section
variable {w w' wr : World} {v : Value} {L : List Int} {a : Option Addr} {n c : Nat}
theorem By.keptF (h : By w v L) {F : Nat → Prop} (hc : Chg w w' F) (hf : ∀ k, blkOf v k → ¬ F k) : By w' v L := ⟨h.rd.kept hc hf, h.nil, h.byte⟩
theorem By.kept (h : By w v L) (hc : Chg w w' nob) : By w' v L := h.keptF hc (fun _ _ => id)
theorem By.alloc (h : By w v L) (o : Obj) : By (w.alloc o) v L := h.kept ((Chg.refl w nob).alloc o)
theorem By.form (h : By w v L) : ∃ ao cap, v = .slice ao L.length cap ∧ L.length ≤ cap := by
  obtain ⟨ao, cap, h1, h2, _⟩ := h.rd.form
  exact ⟨ao, cap, h1, h2⟩
theorem By.lt (h : By w v L) (hL : L ≠ []) {k : Nat} (hk : blkOf v k) : k < w.heap.size := h.rd.lt (by simpa [bytesV] using hL) hk
/-- Kept where what is not empty lies apart. -/
theorem By.keptN (h : By w v L) {F : Nat → Prop} (hc : Chg w w' F) (hf : L ≠ [] → ∀ k, blkOf v k → ¬ F k) : By w' v L := by
  by_cases hL : L = []
  · subst hL
    obtain ⟨ao, cap, rfl, h1⟩ := h.form
    exact ⟨⟨ao, cap, rfl, h1, by simp [bytesV], fun j u hu => by simp [bytesV] at hu⟩, h.nil, h.byte⟩
  · exact h.keptF hc (hf hL)
theorem By.cell (h : By w (.slice a n c) L) {i : Nat} (hi : i < L.length) : ∃ g o, a = some ⟨g, o, none⟩ ∧ w.cell? ⟨g, o + i, none⟩ = some (.int .u8 (L.getD i 0)) := by
  obtain ⟨ao, cap, e, _⟩ := h.form
  cases e
  exact h.rd.cell (j := i) (u := .int .u8 (L.getD i 0)) (by simp [bytesV, List.getD, hi])
theorem By.at0 (h : By w v L) (hi : 0 < L.length) : ∃ g o cap, v = .slice (some ⟨g, o, none⟩) L.length cap ∧ L.length ≤ cap ∧ ∀ i, i < L.length → w.cell? ⟨g, o + i, none⟩ = some (.int .u8 (L.getD i 0)) := by
  obtain ⟨ao, cap, rfl, hc⟩ := h.form
  obtain ⟨g, o, rfl, _⟩ := h.cell hi
  refine ⟨g, o, cap, rfl, hc, fun i hi => ?_⟩
  obtain ⟨g', o', e, h'⟩ := h.cell hi
  cases e
  exact h'
theorem By.mid (h : By w (.slice a L.length c) L) {l m : Nat} (hl : l ≤ m) (hm : m ≤ L.length) : By w (.slice (addS a c l) (m - l) (c - l)) ((L.take m).drop l) := by
  have e : ((L.take m).drop l).length = m - l := by simp; omega
  refine ⟨?_, h.nil.cut, fun x hx => h.byte x (List.mem_of_mem_take (List.mem_of_mem_drop hx))⟩
  rw [e]
  simpa [bytesV, List.map_take, List.map_drop] using h.rd.cut hl hm
theorem By.take (h : By w (.slice a L.length c) L) {m : Nat} (hm : m ≤ L.length) : By w (.slice (addS a c 0) m c) (L.take m) := by
  simpa using h.mid (Nat.zero_le m) hm
theorem By.drop (h : By w (.slice a L.length c) L) {l : Nat} (hl : l ≤ L.length) : By w (.slice (addS a c l) (L.length - l) (c - l)) (L.drop l) := by
  simpa using h.mid hl (Nat.le_refl _)
theorem By.nilv (w : World) (c : Nat) (hc : c = 0) : By w (.slice none 0 c) [] := ⟨⟨none, c, rfl, Nat.zero_le _, rfl, fun j u hu => by simp [bytesV] at hu⟩, fun n c' e => by cases e; exact hc, fun x hx => by cases hx⟩
theorem By.lit (w : World) (L : List Int) (hb : ∀ x ∈ L, 0 ≤ x ∧ x ≤ 255) : By (w.alloc (.cells (bytesV L).toArray 5)) (.slice (some ⟨w.heap.size, 0, none⟩) L.length L.length) L :=
  ⟨by have h := Rd.made w 5 (bytesV L).toArray (size := 1) (n := L.length) (c := L.length) (by simp [bytesV]) (Nat.le_refl _); exact h, fun n c e => (by cases e), hb⟩
theorem By.ofBx (h : Bx w wr v L) (hb : ∀ x ∈ L, 0 ≤ x ∧ x ≤ 255) : By wr v L := ⟨h.1.rd, h.1.nilOk, hb⟩
theorem By.empty (h : By w v L) (hL : L.length = 0) : ∃ a c, v = .slice a 0 c := by
  obtain ⟨a, c, e, _⟩ := h.form
  rw [hL] at e
  exact ⟨a, c, e⟩
theorem Bx.newer (h : Bx w wr v L) {w0 : World} (hc : Chg w0 w nob) : Bx w0 wr v L := ⟨h.1, hc.trans h.2.1 (fun _ _ x => x), fun k hk => Nat.le_trans hc.size (h.2.2 k hk)⟩
theorem Bx.keptC (h : Bx w wr v L) (hc : Chg wr w' nob) : Bx w w' v L := ⟨h.1.kept hc (fun _ _ => id), h.2.1.trans hc (fun _ _ x => x), h.2.2⟩
end
/-- A row of one's own that is new since w. -/
def Nw (w wr : World) (e : TypeId) (v : Value) (xs : List Value) : Prop := Own wr e 1 v xs.length xs ∧ Chg w wr nob ∧ ∀ k, blkOf v k → w.heap.size ≤ k
section
variable {w wr w1 : World} {e : TypeId} {v v1 : Value} {xs us : List Value} {n : Nat}
theorem Nw.nil (w : World) (e : TypeId) : Nw w w e (.slice none 0 0) [] := ⟨World.ownsRow_nil _ _ _ _, Chg.refl _ _, fun k hk => by cases hk⟩
theorem Nw.app (h : Nw w wr e v xs) (ho : Own w1 e 1 v1 n (xs ++ us)) (hc : Chg wr w1 (blkOf v)) (hf : ∀ k, blkOf v1 k → blkOf v k ∨ wr.heap.size ≤ k) (hn : n = (xs ++ us).length) : Nw w w1 e v1 (xs ++ us) := by
  subst hn
  exact ⟨ho, h.2.1.trans hc (fun i hi hb => by have := h.2.2 i hb; omega), fun k hk => by
    rcases hf k hk with h1 | h1
    · exact h.2.2 k h1
    · exact Nat.le_trans h.2.1.size h1⟩
theorem Nw.kept (h : Nw w wr e v xs) (hc : Chg wr w1 nob) : Nw w w1 e v xs := ⟨h.1.kept hc (fun _ _ => id), h.2.1.trans hc (fun _ _ x => x), h.2.2⟩
theorem Nw.newer (h : Nw w wr e v xs) {w0 : World} (hc : Chg w0 w nob) : Nw w0 wr e v xs := ⟨h.1, hc.trans h.2.1 (fun _ _ x => x), fun k hk => Nat.le_trans hc.size (h.2.2 k hk)⟩
theorem Nw.form (h : Nw w wr e v xs) : ∃ a c, v = .slice a xs.length c ∧ xs.length ≤ c ∧ ∀ x, a = some x → ∃ g, x = ⟨g, 0, none⟩ := by
  obtain ⟨a, c, e, h1, _, _, h2⟩ := h.1.form
  exact ⟨a, c, e, h1, h2⟩
end
/-- Bytes of one's own lie apart from what is no row of bytes. -/
theorem Own.apart {w w' : World} {v : Value} {n : Nat} {xs : List Value} {F : Nat → Prop} (h : Own w 5 1 v n xs) (hc : Chg w w' F) (hF : ∀ k, F k → ∃ t cs, Blk w k t cs ∧ 5 ≠ t) : Own w' 5 1 v n xs :=
  h.kept hc fun k hk hf => by
    obtain ⟨t, cs, hb, hne⟩ := hF k hf
    exact h.ne hb hne hk
end Go.Proofs.Ytmekakecdgblaaa
