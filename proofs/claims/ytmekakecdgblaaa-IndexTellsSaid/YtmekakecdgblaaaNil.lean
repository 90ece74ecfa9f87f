
/-
  Slices of bytes that are nil only with no room; their copies.
-/
import Derived.Test.YtmekakecdgblaaaBx
import Derived.Deep.DeepCutAuto
namespace Go.Proofs.Ytmekakecdgblaaa
open Go.RowKit
set_option linter.unusedVariables false
set_option linter.unusedSimpArgs false

theorem Rd.lt {w : World} {size : Nat} {v : Value} {n : Nat} {xs : List Value} (h : Rd w size v n xs) (hx : xs ≠ []) {k : Nat} (hk : blkOf v k) : k < w.heap.size := by
  obtain ⟨ao, cap, rfl, h1, h2, h3⟩ := h
  cases xs with
  | nil => exact absurd rfl hx
  | cons u us =>
    obtain ⟨b, o, rfl, hc⟩ := h3 0 u rfl
    cases hk
    exact World.block_lt_of_cell? w _ hc
/-- Where a slice of a slice begins. -/
def addS (a : Option Addr) (cap l : Nat) : Option Addr := if cap = l then a else a.map (·.add l)
theorem addS_blk {a : Option Addr} {cap l m n c d k : Nat} (h : blkOf (.slice (addS a cap l) m c) k) : blkOf (.slice a n d) k := by
  cases a with
  | none => unfold addS at h; split at h <;> cases h
  | some x =>
    unfold addS at h
    split at h
    · exact h
    · have hb : (x.add l).block = x.block := by unfold Addr.add; split <;> rfl
      simpa [blkOf, Value.ownBlock, hb] using h
theorem Rd.cut {w : World} {a : Option Addr} {len cap l m : Nat} {xs : List Value} (h : Rd w 1 (.slice a len cap) len xs) (hl : l ≤ m) (hm : m ≤ len) :
    Rd w 1 (.slice (addS a cap l) (m - l) (cap - l)) (m - l) ((xs.take m).drop l) := by
  obtain ⟨ao, cap', hv, h1, h2, h3⟩ := h
  cases hv
  refine ⟨_, _, rfl, by omega, by simp; omega, fun j u hu => ?_⟩
  have hj := (List.getElem?_eq_some_iff.1 hu).1
  simp at hj
  rw [List.getElem?_drop, List.getElem?_take_of_lt (by omega)] at hu
  obtain ⟨g, o, rfl, hc⟩ := h3 _ u hu
  by_cases hcl : cap = l
  · omega
  · refine ⟨g, o + l, by simp [addS, hcl, Addr.add_lit], by rw [Nat.add_assoc]; exact hc⟩
set_option maxRecDepth 100000 in
theorem run_cut_h (a : Option Addr) (len cap : Nat) (k : IntKind) (h : Int) (w : World) (h0 : 0 ≤ h) (h2 : h ≤ cap) :
    (Instr.slice 23 (.slice a len cap) none (some (.int k h)) none).run Try.prog w = .ok (.slice (addS a cap 0) h.toNat cap) w := by
  rw [run_slice_h w 23 a len cap u_bytes k h h0 h2]
  rfl
set_option maxRecDepth 100000 in
theorem run_cut_l (a : Option Addr) (len cap : Nat) (k : IntKind) (l : Int) (w : World) (h0 : 0 ≤ l) (h2 : l ≤ len) :
    (Instr.slice 23 (.slice a len cap) (some (.int k l)) none none).run Try.prog w = .ok (.slice (addS a cap l.toNat) (len - l.toNat) (cap - l.toNat)) w := by
  rw [run_slice_l w 23 a len cap u_bytes k l h0 h2]
  have : (sizeOf (Try.prog.elem 23)).run Try.prog w = .ok 1 w := rfl
  rw [this]
  simp [Result.andThen, sliced, addS]
theorem Bx.drew {w wr : World} {v : Value} {L : List Int} (h : Bx w wr v L) : Bx w wr.drew v L := ⟨World.ownsRow.drew h.1, h.2.1.drew, h.2.2⟩
theorem size_al (w : World) (o : Obj) : (w.alloc o).heap.size = w.heap.size + 1 := Array.size_push _
/-- Bytes behind bytes of one's own: what the append wants of the second. -/
def NilOk (v : Value) : Prop := ∀ n c, v = .slice none n c → c = 0
theorem Own.nilOk {w : World} {e : TypeId} {size n : Nat} {v : Value} {xs : List Value} (h : Own w e size v n xs) : NilOk v := fun m c hv => by
  obtain ⟨ao, cap, rfl, _, _, h1, _⟩ := h.form
  cases hv
  exact (h1 rfl).2
theorem NilOk.cut {a : Option Addr} {n c l m : Nat} (h : NilOk (.slice a n c)) : NilOk (.slice (addS a c l) m (c - l)) := fun m' c' hv => by
  cases a with
  | none =>
    have h0 := h n c rfl
    subst h0
    have h1 : c' = 0 - l := by injection hv with _ _ e; exact e.symm
    omega
  | some x => exfalso; unfold addS at hv; split at hv <;> cases hv
theorem Rd.news {w : World} {ao : Option Addr} {n cap : Nat} {xs : List Int} (hr : Rd w 1 (.slice ao n cap) n (bytesV xs)) : ∀ a, ao = some a → ∀ j u, (bytesV xs)[j]? = some u → w.cell? (a.add j) = some u := fun a ha j u hu => by
  obtain ⟨b', o', h1, h2⟩ := hr.cell hu
  rw [ha] at h1
  cases h1
  rw [Addr.add_lit]; exact h2
theorem Rd.nil0 {w : World} {ao : Option Addr} {cap : Nat} {xs : List Int} (hr : Rd w 1 (.slice ao xs.length cap) xs.length (bytesV xs)) (hn : NilOk (.slice ao xs.length cap)) : ao = none → xs.length = 0 ∧ cap = 0 := fun h => by
  subst h
  refine ⟨?_, hn _ _ rfl⟩
  cases xs with
  | nil => rfl
  | cons x t => obtain ⟨_, _, h, _⟩ := hr.cell (j := 0) (u := .int .u8 x) rfl; cases h

set_option maxRecDepth 100000 in
/-- A copy of bytes. -/
theorem copy_any (w : World) (va : Value) (xs : List Int) (ha : Rd w 1 va xs.length (bytesV xs)) (hn : NilOk va) (hl : xs.length ≤ 1000000) :
    Calls Try.prog 40 #[va] w fun e w' => ∃ v, e = .returned v ∧ Own w' 5 1 v xs.length (bytesV xs) ∧ Chg w w' nob ∧ ∀ k, blkOf v k → w.heap.size ≤ k := by
  obtain ⟨ao, cap, rfl, hc, hlen⟩ := ha.form
  have hr : Rd (w.alloc (.cells #[] 5)) 1 (.slice ao xs.length cap) xs.length (bytesV xs) := ha.alloc _
  have hnews := Lib.hid hr.news
  have hnil := Lib.hid (ha.nil0 hn)
  have hone := Lib.hid (bytes_one xs)
  have hown : Own (w.alloc (.cells #[] 5)) 5 1 (.slice (some ⟨w.heap.size, 0, none⟩) 0 0) 0 [] := Own.lit w 5 #[] (by decide)
  clear hr ha hn
  go_enter Try.func40, Try.ntmps40
  go_wp2_with (at_builtin; refine wpList_app rfl (.tmp 3) (.tmp 4) 23 rfl 5 (.int .u8 0) 1 1 i_byte u_bytes rfl (by decide) _ 0 _ rfl hown ao xs.length cap (bytesV xs) rfl hnil.out (by simp [bytesV]) hnews.out hone.out (by unfold maxLen; omega) (by omega) ?_)
  intro v5 w5 ho5 hch5 hfo5
  go_wp2
  go_ret
  refine ⟨_, rfl, by simpa using ho5, ((Chg.refl w nob).alloc _).trans hch5 (fun i hi h => ?_), fun k hk => ?_⟩
  · cases h; simp at hi
  · rcases hfo5 k hk with h | h
    · cases h; exact Nat.le_refl _
    · have := size_al w (.cells #[] 5); omega

end Go.Proofs.Ytmekakecdgblaaa
