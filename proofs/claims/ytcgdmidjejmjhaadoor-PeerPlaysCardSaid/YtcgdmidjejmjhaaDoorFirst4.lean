
/-
  Chapter 4's examples.
-/
import Derived.Test.YtcgdmidjejmjhaaDoorHm
import Derived.Lib.SlBytesConst
namespace Go.Proofs.YtcgdmidjejmjhaaDoor
open Go.RowKit
set_option linter.unusedVariables false
set_option linter.unusedSimpArgs false

def jefe : List Int := [74, 101, 102, 101]
def what : List Int := [119, 104, 97, 116, 32, 100, 111, 32, 121, 97, 32, 119, 97, 110, 116, 32]
def fornot : List Int := [102, 111, 114, 32, 110, 111, 116, 104, 105, 110, 103, 63]
set_option maxRecDepth 100000 in
theorem sum_nil : (sumL []).take 4 = [227, 176, 196, 66] := by decide +kernel
set_option maxRecDepth 100000 in
theorem hmac_jefe : (hmacL jefe (what ++ fornot)).take 4 = [91, 220, 193, 70] := by decide +kernel
theorem Ps.lit {w : World} {b : Nat} {T : TypeId} {vs : List Value} {P : List (List Int)} (hb : Blk w b T vs.toArray) (hl : vs.length = P.length)
    (h : ∀ (i : Nat) (u : Value) (l : List Int), vs[i]? = some u → P[i]? = some l → Rd w 1 u l.length (bytesV l) ∧ NilOk u ∧ byteL l) : Ps w (.slice (some ⟨b, 0, none⟩) P.length P.length) P :=
  ⟨vs, P.length, b, 0, rfl, Nat.le_refl _, hl, fun i u hu => by rw [Nat.zero_add, hb.cell]; simpa using hu, h⟩
theorem Ps.one {w : World} {T : TypeId} {u : Value} {l : List Int} (hr : Rd w 1 u l.length (bytesV l)) (hn : NilOk u) (hb : byteL l) : Ps (w.alloc (.cells #[u] T)) (.slice (some ⟨w.heap.size, 0, none⟩) 1 1) [l] :=
  Ps.lit (vs := [u]) (P := [l]) (Blk.new w T _) rfl fun i u' l' h1 h2 => by
    match i, h1, h2 with
    | 0, h1, h2 => cases h1; cases h2; exact ⟨hr.alloc _, hn, hb⟩
theorem Ps.two {w : World} {T : TypeId} {u v : Value} {l m : List Int} (hr : Rd w 1 u l.length (bytesV l)) (hn : NilOk u) (hb : byteL l) (hr2 : Rd w 1 v m.length (bytesV m)) (hn2 : NilOk v) (hb2 : byteL m) : Ps (w.alloc (.cells #[u, v] T)) (.slice (some ⟨w.heap.size, 0, none⟩) 2 2) [l, m] :=
  Ps.lit (vs := [u, v]) (P := [l, m]) (Blk.new w T _) rfl fun i u' l' h1 h2 => by
    match i, h1, h2 with
    | 0, h1, h2 => cases h1; cases h2; exact ⟨hr.alloc _, hn, hb⟩
    | 1, h1, h2 => cases h1; cases h2; exact ⟨hr2.alloc _, hn2, hb2⟩
theorem Ps.three {w : World} {T : TypeId} {u v x : Value} {l m n : List Int} (hr : Rd w 1 u l.length (bytesV l)) (hn : NilOk u) (hb : byteL l) (hr2 : Rd w 1 v m.length (bytesV m)) (hn2 : NilOk v) (hb2 : byteL m) (hr3 : Rd w 1 x n.length (bytesV n)) (hn3 : NilOk x) (hb3 : byteL n) : Ps (w.alloc (.cells #[u, v, x] T)) (.slice (some ⟨w.heap.size, 0, none⟩) 3 3) [l, m, n] :=
  Ps.lit (vs := [u, v, x]) (P := [l, m, n]) (Blk.new w T _) rfl fun i u' l' h1 h2 => by
    match i, h1, h2 with
    | 0, h1, h2 => cases h1; cases h2; exact ⟨hr.alloc _, hn, hb⟩
    | 1, h1, h2 => cases h1; cases h2; exact ⟨hr2.alloc _, hn2, hb2⟩
    | 2, h1, h2 => cases h1; cases h2; exact ⟨hr3.alloc _, hn3, hb3⟩
theorem cutS {w : World} {av : Option Addr} {cv : Nat} {L : List Int} {m : Nat} (h : Own w 5 1 (.slice av L.length cv) L.length (bytesV L)) (hm : m ≤ L.length) : Rd w 1 (.slice av m cv) (L.take m).length (bytesV (L.take m)) ∧ NilOk (.slice av m cv) := by
  have hav : ∀ a, av = some a → ∃ g, a = ⟨g, 0, none⟩ := fun a ha => by
    obtain ⟨ao, cap, hv, _, _, _, h7⟩ := h.form
    cases hv
    exact h7 a ha
  have hrd := h.rd.cut (l := 0) (m := m) (by omega) hm
  have hnk := h.nilOk.cut (l := 0) (m := m)
  rw [addS_zero hav] at hrd hnk
  refine ⟨?_, by simpa using hnk⟩
  have e : (L.take m).length = m := by simp; omega
  rw [e]
  simpa [bytesV, List.map_take] using hrd
theorem conv_const (w : World) (b : Nat) (C : Array Value) (n c : Nat) (h : b = w.heap.size) : (convert 22 22 (.slice (some ⟨b, 0, none⟩) n c)).run Tryd.prog (w.alloc (.cells C 5)) = .ok (.slice (some ⟨b, 0, none⟩) n c) (w.alloc (.cells C 5 (C.size, C.size + 1))) := by
  subst h
  exact Lib.run_convert_bytes_const (P := Tryd.prog) w 22 5 C n c u_bytes (by kernel_rfl)
theorem Rd.litM (w : World) (L : List Int) (b n : Nat) (fr : Nat × Nat) (hb : b = w.heap.size) (hn : n = L.length) : Rd (w.alloc (.cells (bytesV L).toArray 5 fr)) 1 (.slice (some ⟨b, 0, none⟩) n n) L.length (bytesV L) := by
  subst hb hn
  refine ⟨_, _, rfl, Nat.le_refl _, by simp [bytesV], fun j u hu => ⟨w.heap.size, 0, rfl, ?_⟩⟩
  rw [Nat.zero_add, cell_of_row _ _ j (bytesV L).toArray 5 fr (heap_alloc_new w _)]
  simpa using hu
attribute [local go_sem] conv_const
end Go.Proofs.YtcgdmidjejmjhaaDoor
