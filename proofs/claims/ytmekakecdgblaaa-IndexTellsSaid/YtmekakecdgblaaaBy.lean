
/-
  Bytes in memory: rows of bytes of the call's own.
-/
import Derived.Test.YtmekakecdgblaaaK
import Derived.Test.YtmekakecdgblaaaC
import Derived.Deep.DeepCutAuto
import Derived.Lib.EndianBits
namespace Go.Proofs.Ytmekakecdgblaaa
open Go.RowKit
set_option linter.unusedVariables false
set_option linter.unusedSimpArgs false

def bytesV (l : List Int) : List Value := l.map (Value.int .u8)
theorem u_bytes : Try.prog.underlying 23 = some (.slice 5) := by kernel_rfl
theorem i_byte : (Try.prog.info? 5).map (fun i => (i.zero, i.size, i.bytes)) = some (some (.int .u8 0), 1, 1) := by kernel_rfl
theorem wraps_u8' (n : Nat) : IntKind.u8.wrap (n : Int) = ((n % 256 : Nat) : Int) := by simp [IntKind.wrap, IntKind.bits, IntKind.signed]
/-- Bytes of the call's own. -/
def Bx (w wr : World) (v : Value) (L : List Int) : Prop := Own wr 5 1 v L.length (bytesV L) ∧ Chg w wr nob ∧ ∀ k, blkOf v k → w.heap.size ≤ k
theorem Bx.pushs {w wr w1 : World} {v v1 : Value} {L ys : List Int} {us : List Value} {n : Nat} (h : Bx w wr v L) (ho : Own w1 5 1 v1 n (bytesV L ++ us)) (hc : Chg wr w1 (blkOf v)) (hf : ∀ k, blkOf v1 k → blkOf v k ∨ wr.heap.size ≤ k) (hu : us = bytesV ys) (hn : n = (L ++ ys).length) : Bx w w1 v1 (L ++ ys) := by
  subst hu hn
  refine ⟨by simpa [bytesV] using ho, h.2.1.trans hc (fun i hi hb => by have := h.2.2 i hb; omega), fun k hk => ?_⟩
  rcases hf k hk with h1 | h1
  · exact h.2.2 k h1
  · exact Nat.le_trans h.2.1.size h1
theorem take_snoc {α : Type} {l : List α} {k : Nat} (h : k < l.length) (d : α) : l.take (k + 1) = l.take k ++ [l.getD k d] := by
  rw [List.take_succ_eq_append_getElem h]; simp [List.getD, h]
theorem bytes_one (ys : List Int) : ∀ u ∈ bytesV ys, u.oneCell' = true := fun u hu => by obtain ⟨x, _, rfl⟩ := List.mem_map.1 hu; rfl
theorem Own.lit (w : World) (e : TypeId) (cs : Array Value) (h : cs.size ≤ 1000) : Own (w.alloc (.cells cs e)) e 1 (.slice (some ⟨w.heap.size, 0, none⟩) cs.size cs.size) cs.size cs.toList :=
  ⟨by simp, .inr ⟨w.heap.size, cs.size, cs, rfl, Nat.zero_le _, heap_alloc_new w _, Nat.le_refl _, by unfold maxLen; omega, by simp, by rw [Nat.mul_one]; exact List.take_of_length_le (by simp)⟩⟩
end Go.Proofs.Ytmekakecdgblaaa
