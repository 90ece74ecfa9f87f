
/-
  The table of package mac, as the rows list it.
-/
import Derived.Test.YtcgdmidjejmjhaaDoorRows
import Derived.Test.YtcgdmidjejmjhaaDoorMac4
import Derived.Lib.LaidU8
import Derived.LaidMore
import Derived.MakeChecks
namespace Go.Proofs.YtcgdmidjejmjhaaDoor
open Go.ChangeShapes Go.WideShapes Go.RowKit
set_option linter.unusedVariables false

def roundsD : DataW Unit := .agg (roundsL.map fun z => .lit (.int .u32 z))
theorem gRounds : Tryd.prog.globalNamed "tickertape/mac.rounds" = some 0 := by kernel_rfl
theorem tRounds : (Tryd.prog.globals[0]?).map (·.type) = some 82 := by kernel_rfl
theorem uRounds : Tryd.prog.underlying 82 = some (.array 64 72) := by kernel_rfl
theorem uRound : Tryd.prog.underlying 72 = some (.int .u32) := by kernel_rfl
theorem cRound : Tryd.prog.cellsOf 72 = 1 := by kernel_rfl
theorem rounds_of_reads {W : World} (h : Lib.VarReads Tryd.prog W "tickertape/mac.rounds" roundsD) : Tab W := by
  obtain ⟨g', t', cs, fuel, p, h1, h2, hv, hd⟩ := h
  obtain rfl := Option.some.inj (gRounds.symm.trans h1)
  obtain rfl := Option.some.inj (tRounds.symm.trans h2)
  refine ⟨fun j x hj => ?_⟩
  have hi : j < 64 := (List.getElem?_eq_some_iff.1 hj).1
  obtain ⟨fu, d, q, hds, hel⟩ := Lib.array_elem uRounds hd j hi
  have hd2 : d = .lit (.int .u32 x) := by
    rw [List.getElem?_map, hj] at hds
    exact (Option.some.inj hds).symm
  subst hd2
  rw [cRound, Nat.mul_one] at hel
  have hcs := DataW.trod_int uRound hel
  rw [World.var?_cell gRounds hv j, ← Array.getElem?_toList]
  obtain ⟨n, hn, hx, _⟩ := hcs
  have e : x = n := by
    have := (Prod.mk.inj hx).1
    simpa using this
  subst e
  have h := congrArg (·[0]?) hn
  simp only [List.getElem?_take_of_lt (show 0 < 1 by omega), List.getElem?_drop, Nat.add_zero] at h
  exact h
/-- What the rows list of package mac's tables. -/
def cellLaid : List (String × DataW Unit) := [("tickertape/mac.rounds", Rows.laid_tickertape_mac_rounds)]
theorem tab_of_laid {W : World} (h : laidMetH Tryd.prog cellLaid W) : Tab W := by
  rw [MakeChecks.laidMetH_plain _ _ _ (by kernel_rfl)] at h
  exact rounds_of_reads (Lib.laidMet.reads h (n := "tickertape/mac.rounds") (d := roundsD) (List.mem_cons_self ..))
end Go.Proofs.YtcgdmidjejmjhaaDoor
