/-
  The tables of package cell, as the rows list them.
-/
import Derived.Test.YtiojhfaeeelfeaaDoorRows
import Derived.Test.YtiojhfaeeelfeaaDoorMg4
import Derived.Test.YtiojhfaeeelfeaaDoorMg34
import Derived.Lib.LaidU8
import Derived.LaidMore
import Derived.MakeChecks
namespace Go.Proofs.YtiojhfaeeelfeaaDoor
open Go.ChangeShapes Go.WideShapes Go.RowKit
set_option linter.unusedVariables false

def spansD (L : List (Int × Int)) : DataW Unit := .agg (L.map fun p => .agg ([p.1, p.2].map fun z => .lit (.int .i32 z)))
theorem gNone : Tryd.prog.globalNamed "tickertape/cell.none" = some 0 := by kernel_rfl
theorem gWide : Tryd.prog.globalNamed "tickertape/cell.wide" = some 1 := by kernel_rfl
theorem tNone : (Tryd.prog.globals[0]?).map (·.type) = some 136 := by kernel_rfl
theorem tWide : (Tryd.prog.globals[1]?).map (·.type) = some 137 := by kernel_rfl
theorem uNone : Tryd.prog.underlying 136 = some (.array 4 135) := by kernel_rfl
theorem uWide : Tryd.prog.underlying 137 = some (.array 10 135) := by kernel_rfl
theorem uSpan : Tryd.prog.underlying 135 = some (.struct (fieldsOf Tryd.prog 135)) := by kernel_rfl
theorem cSpan : Tryd.prog.cellsOf 135 = 2 := by kernel_rfl
theorem fSpan : ∀ (i : Nat) (f : Field), (fieldsOf Tryd.prog 135)[i]? = some f → Tryd.prog.underlying f.type = some (.int .i32) ∧ f.offset = i ∧ Tryd.prog.cellsOf f.type = 1 := by
  have hs : (fieldsOf Tryd.prog 135).size = 2 := by kernel_rfl
  have hk : ((fieldsOf Tryd.prog 135).toList.map fun f => (Tryd.prog.underlying f.type, f.offset, Tryd.prog.cellsOf f.type)) = [(some (.int .i32), 0, 1), (some (.int .i32), 1, 1)] := by kernel_rfl
  intro i f hf
  have hi := (Array.getElem?_eq_some_iff.1 hf).1
  have h := congrArg (·[i]?) hk
  simp only [List.getElem?_map, Array.getElem?_toList, hf, Option.map_some] at h
  rcases (show i = 0 ∨ i = 1 by omega) with rfl | rfl
  · have := Option.some.inj h; simp only [Prod.mk.injEq] at this; exact this
  · have := Option.some.inj h; simp only [Prod.mk.injEq] at this; exact this
set_option maxRecDepth 100000 in
theorem spans_of_reads {W : World} {name : String} {g : Nat} {t : TypeId} {L : List (Int × Int)} (hg : Tryd.prog.globalNamed name = some g) (ht : (Tryd.prog.globals[g]?).map (·.type) = some t) (hu : Tryd.prog.underlying t = some (.array L.length 135))
    (h : Lib.VarReads Tryd.prog W name (spansD L)) : Rd W 2 (.slice (some ⟨g, 0, none⟩) L.length L.length) L.length (spansV L) := by
  obtain ⟨g', t', cs, fuel, p, h1, h2, hv, hd⟩ := h
  obtain rfl := Option.some.inj (hg.symm.trans h1)
  obtain rfl := Option.some.inj (ht.symm.trans h2)
  refine ⟨_, _, rfl, Nat.le_refl _, spansV_len L, fun j u hj => ⟨g, 0, rfl, ?_⟩⟩
  have hjl := (List.getElem?_eq_some_iff.1 hj).1
  rw [spansV_len] at hjl
  have hi : j / 2 < L.length := by omega
  obtain ⟨fu, d, q, hds, hel⟩ := Lib.array_elem hu hd (j / 2) hi
  obtain ⟨⟨f, s⟩, hp⟩ : ∃ p, L[j / 2]? = some p := ⟨L[j / 2], List.getElem?_eq_getElem hi⟩
  have hd2 : d = .agg ([f, s].map fun z => .lit (.int .i32 z)) := by
    rw [List.getElem?_map, hp] at hds
    exact (Option.some.inj hds).symm
  subst hd2
  rw [cSpan] at hel
  have hcs := Lib.ints_of_struct uSpan fSpan (by rw [cSpan]; kernel_rfl) hel
  have hat : cs.toList[j]? = ([f, s].map fun z => Value.int .i32 z)[j % 2]? := by
    rw [← hcs, List.getElem?_take_of_lt (by omega), List.getElem?_drop]
    congr 1
    omega
  have hsv : (spansV L)[j]? = ([f, s].map fun z => Value.int .i32 z)[j % 2]? := by
    have := spansV_at L (j / 2) (f, s) hp
    rcases (show j % 2 = 0 ∨ j % 2 = 1 by omega) with h | h
    · rw [h, show j = j / 2 * 2 by omega]
      have e := this.1
      simpa using e
    · rw [h]
      have e := this.2
      rw [show j / 2 * 2 + 1 = j by omega] at e
      simpa using e
  rw [hsv, ← hat] at hj
  rw [Nat.zero_add, World.var?_cell hg hv j, ← Array.getElem?_toList]
  exact hj
/-- What the rows list of package cell's tables. -/
def cellLaid : List (String × DataW Unit) := [("tickertape/cell.wide", Rows.laid_tickertape_cell_wide), ("tickertape/cell.none", Rows.laid_tickertape_cell_none)]
theorem tab_of_laid {W : World} (h : laidMetH Tryd.prog cellLaid W) : Tab W := by
  rw [MakeChecks.laidMetH_plain _ _ _ (by kernel_rfl)] at h
  have hw := Lib.laidMet.reads h (n := "tickertape/cell.wide") (d := spansD wideL) (List.mem_cons_self ..)
  have hn := Lib.laidMet.reads h (n := "tickertape/cell.none") (d := spansD noneL) (List.mem_cons_of_mem _ (List.mem_cons_self ..))
  exact ⟨spans_of_reads (L := noneL) gNone tNone uNone hn, spans_of_reads (L := wideL) gWide tWide uWide hw⟩
end Go.Proofs.YtiojhfaeeelfeaaDoor
