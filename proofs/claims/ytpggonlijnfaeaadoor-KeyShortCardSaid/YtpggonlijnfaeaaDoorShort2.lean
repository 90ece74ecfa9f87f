/-
  KeyShort: what its stores do.
-/
import Derived.Test.YtpggonlijnfaeaaDoorShort
namespace Go.Proofs.YtpggonlijnfaeaaDoor
open Go.RowKit
set_option linter.unusedVariables false
set_option linter.unusedSimpArgs false

theorem may_plain {rn cn : Nat} {l : List Ce} (h : 1 ≤ rn ∧ rn ≤ 60 ∧ 1 ≤ cn ∧ cn ≤ 200) (hl : l.length = rn * cn) (hc : ∀ c ∈ l, c.may = true ∧ c.w = 0) : mayS rn cn l 0 0 ByteArray.empty = true := by
  unfold mayS
  rw [title_empty]
  have h1 : mendF rn cn l = true := by
    unfold mendF
    have hf : fitsF rn cn = true := by simp [fitsF]; omega
    have he : decide ((l.length : Int) = (rn : Int) * (cn : Int)) = true := by rw [hl]; simp
    rw [hf, he]
    simp only [Bool.true_and, List.all_eq_true, List.mem_range]
    intro k hk
    obtain ⟨h2, h3⟩ := hc (l.getD k .z) (by rw [show l.getD k .z = l[k] by simp [List.getD, hk]]; exact List.getElem_mem hk)
    unfold okC
    rw [h2, h3]
    rfl
  have h2 : decide ((0 : Int) ≤ 0 ∧ (0 : Int) < (rn : Int) ∧ (0 : Int) ≤ 0 ∧ (0 : Int) < (cn : Int)) = true := by simp; omega
  rw [h1, h2]; rfl
theorem cellsV_split (l : List Ce) (k : Nat) (hk : k < l.length) : cellsV l = cellsV (l.take k) ++ (l[k].cs ++ cellsV (l.drop (k + 1))) := by
  have e : l = l.take k ++ (l[k] :: l.drop (k + 1)) := by rw [← List.drop_eq_getElem_cons hk, List.take_append_drop]
  have e2 := congrArg cellsV e
  rw [cellsV_app] at e2
  exact e2.trans (by rw [show cellsV (l[k] :: l.drop (k + 1)) = l[k].cs ++ cellsV (l.drop (k + 1)) from List.flatMap_cons ..])
theorem cs_len (c : Ce) : c.cs.length = 5 := rfl
theorem putL_cells (l : List Ce) (k : Nat) (c : Ce) (hk : k < l.length) : putL (cellsV l) (k * 5) c.cs = cellsV (l.set k c) := by
  have ht : (cellsV (l.take k)).length = k * 5 := by rw [cellsV_len, List.length_take]; omega
  rw [putL_eq _ _ _ (by rw [cs_len, cellsV_len]; omega), List.set_eq_take_append_cons_drop, if_pos hk, cellsV_app, cs_len]
  have h1 : (cellsV l).take (k * 5) = cellsV (l.take k) := by rw [cellsV_split l k hk, List.take_left' ht]
  have h2 : (cellsV l).drop (k * 5 + 5) = cellsV (l.drop (k + 1)) := by rw [cellsV_drop, show (k + 1) * 5 = k * 5 + 5 by omega]
  rw [h1, h2, List.append_assoc]
  simp [cellsV]
theorem set_flag (l : List Ce) (k : Nat) (c : Ce) (f : Int) (hk : l[k]? = some c) : (cellsV l).set (k * 5 + 1) (.int .i64 f) = cellsV (l.set k { c with f := f }) := by
  have hkl := (List.getElem?_eq_some_iff.1 hk).1
  have hkc : l[k] = c := Option.some.inj ((List.getElem?_eq_getElem hkl).symm.trans hk)
  have ht : (cellsV (l.take k)).length = k * 5 := by rw [cellsV_len, List.length_take]; omega
  rw [cellsV_split l k hkl, List.set_eq_take_append_cons_drop (l := l), if_pos hkl, cellsV_app, List.set_append_right _ _ (by omega), ht, hkc]
  congr 1
  rw [show k * 5 + 1 - k * 5 = 1 by omega]
  simp [cellsV, Ce.cs]
/-- A row of cells of one's own: what its stores ask. -/
theorem own_cells {w : World} {ao : Option Addr} {m cap : Nat} {l : List Ce} (h : Own w 36 5 (.slice ao m cap) m (cellsV l)) (hm : 1 ≤ m) : ∃ g, ao = some ⟨g, 0, none⟩ ∧ m ≤ cap ∧ (∃ cur, Blk w g 36 cur) ∧ l.length = m ∧
    ∀ k c, l[k]? = some c → w.cell? ⟨g, k * 5, none⟩ = some (.int .i32 c.r) ∧ w.cell? ⟨g, k * 5 + 1, none⟩ = some (.int .i64 c.f) ∧ w.cell? ⟨g, k * 5 + 2, none⟩ = some (.int .i64 c.g) ∧ w.cell? ⟨g, k * 5 + 3, none⟩ = some (.int .i64 c.b) ∧ w.cell? ⟨g, k * 5 + 4, none⟩ = some (.int .i64 c.w) := by
  have hlen : l.length = m := by have := h.1; rw [cellsV_len] at this; omega
  obtain ⟨ao', cap', hv, h1, _, h3, h4⟩ := h.form
  cases hv
  cases ao with
  | none => have := (h3 rfl).1; omega
  | some a =>
    obtain ⟨g, rfl⟩ := h4 a rfl
    refine ⟨g, rfl, h1, h.row rfl, hlen, fun k c hk => ?_⟩
    have hkl := (List.getElem?_eq_some_iff.1 hk).1
    have hat : ∀ j, j < 5 → w.cell? ⟨g, k * 5 + j, none⟩ = c.cs[j]? := fun j hj => by
      rw [h.cellAt (k * 5 + j) (by omega)]
      exact cellsV_at l k c hk j hj
    exact ⟨hat 0 (by omega), hat 1 (by omega), hat 2 (by omega), hat 3 (by omega), hat 4 (by omega)⟩
def halfL (m i : Nat) (c : Ce) : List Ce := List.replicate i c ++ List.replicate (m - i) .blank
theorem half_step {m i : Nat} (c : Ce) (h : i < m) : (halfL m i c).set i c = halfL m (i + 1) c := by
  unfold halfL
  rw [List.set_append_right _ _ (by simp)]
  simp only [List.length_replicate, Nat.sub_self]
  rw [show m - i = (m - (i + 1)) + 1 by omega, List.replicate_succ, List.set_cons_zero, List.replicate_succ' (n := i), List.append_assoc]
  rfl
theorem half_at {m i : Nat} (c : Ce) (h : i < m) : (halfL m i c)[i]? = some .blank := by
  unfold halfL
  rw [List.getElem?_append_right (by simp)]
  simp only [List.length_replicate, Nat.sub_self]
  rw [List.getElem?_replicate, if_pos (by omega)]
theorem off_set {m k : Nat} (c d : Ce) (h : k < m) : (List.replicate m c).set k d = oneOff m k c d := by
  unfold oneOff
  rw [List.set_eq_take_append_cons_drop, if_pos (by simpa using h)]
  simp [Nat.min_eq_left (Nat.le_of_lt h)]
  omega
end Go.Proofs.YtpggonlijnfaeaaDoor
