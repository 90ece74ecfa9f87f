/-
  An argument that is a slice of slices of bytes.
-/
import Derived.Test.YtajcefdbljbmdaaDoorOpenPk
import Derived.Test.YtajcefdbljbmdaaDoorPo
namespace Go.Proofs.YtajcefdbljbmdaaDoor
open Go.ChangeShapes Go.WideShapes Go.Deep Go.RowKit
set_option linter.unusedVariables false

/-- v is a slice of these slices of bytes, to be read. -/
def PsA (w : World) (a : Option Addr) (c : Nat) (P : List (List Int)) : Prop :=
  P.length ≤ c ∧ ∀ i, i < P.length → ∃ g o u, a = some ⟨g, o, none⟩ ∧ w.cell? ⟨g, o + i, none⟩ = some u ∧ By w u (P.getD i [])
theorem PsA.at {w : World} {a : Option Addr} {c : Nat} {P : List (List Int)} (h : PsA w a c P) {i : Nat} (hi : i < P.length) : ∃ g o u, a = some ⟨g, o, none⟩ ∧ w.cell? ⟨g, o + i, none⟩ = some u ∧ By w u (P.getD i []) := h.2 i hi
section
variable {H : Type} {enc : TypeId × Value → H} {w : World} {base : Nat} {held : Bool}
theorem parts_open {fuel : Nat} {cs : List Value} {x : DataW H × List MemPlace} (h : DataW.trod enc Tryd.prog w base (fun _ => true) held fuel 25 cs = some x) :
    ∃ a c P, cs = [.slice a (List.length P) c] ∧ PsA w a c P := by
  rcases DataW.trod_slice u_parts h with ⟨rfl, _⟩ | ⟨a, len, cap, elems, rest, n, _, rfl, _, _, hlc, _, _⟩
  · exact ⟨none, 0, [], rfl, Nat.le_refl _, fun i hi => absurd hi (Nat.not_lt_zero _)⟩
  · have hr := recs_cells u_parts (show Tryd.prog.cellsOf 22 = 1 by kernel_rfl) (by decide) h
    have hc : ∀ i, i < len → ∃ l : List Int, ∃ g o u, a = ⟨g, o, none⟩ ∧ w.cell? ⟨g, o + i, none⟩ = some u ∧ By w u l := fun i hi => by
      obtain ⟨b, o, cs, n, y, ha, hcl, hat, ht⟩ := hr i hi
      obtain ⟨ab, cb, L, rfl, hby⟩ := bytes_open ht
      have h0 := hat 0 (by decide)
      simp only [Nat.mul_one, Nat.add_zero, List.getElem?_cons_zero] at h0
      exact ⟨L, b, o, _, by cases ha; rfl, h0, hby⟩
    obtain ⟨F, hF⟩ : ∃ F : Nat → List Int, ∀ i, i < len → ∃ g o u, a = ⟨g, o, none⟩ ∧ w.cell? ⟨g, o + i, none⟩ = some u ∧ By w u (F i) :=
      ⟨fun i => if h : i < len then Classical.choose (hc i h) else [], fun i hi => by simp only [dif_pos hi]; exact Classical.choose_spec (hc i hi)⟩
    have hll : ((List.range len).map F).length = len := by simp
    refine ⟨some a, cap, (List.range len).map F, by rw [hll], by rw [hll]; exact hlc, fun i hi => ?_⟩
    rw [hll] at hi
    obtain ⟨g, o, u, ha, hcell, hby⟩ := hF i hi
    refine ⟨g, o, u, by rw [ha], hcell, ?_⟩
    have e : ((List.range len).map F).getD i [] = F i := by simp [List.getD, hi]
    rw [e]
    exact hby
end
end Go.Proofs.YtajcefdbljbmdaaDoor
