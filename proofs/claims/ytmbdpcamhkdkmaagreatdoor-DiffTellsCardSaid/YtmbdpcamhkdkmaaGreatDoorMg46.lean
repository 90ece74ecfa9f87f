/-
  Arguments that hold cells and screens: their reading.
  The tables of package cell, as the rows list them.
-/
import Derived.Test.YtmbdpcamhkdkmaaGreatDoorMg45
import Derived.Test.YtmbdpcamhkdkmaaGreatDoorEncM
import Derived.OpenShut
import Derived.Lib.LaidU8
import Derived.Test.YtmbdpcamhkdkmaaGreatDoorRows
import Derived.Test.YtmbdpcamhkdkmaaGreatDoorMg4
import Derived.LaidMore
import Derived.MakeChecks
namespace Go.Proofs.YtmbdpcamhkdkmaaGreatDoor
open Go.ChangeShapes Go.WideShapes Go.Deep Go.RowKit
set_option linter.unusedVariables false
section
variable {H : Type} {enc : TypeId × Value → H} {w : World} {base : Nat} {spare : Nat → Bool} {held : Bool}
theorem u_attr : Tryz.prog.underlying 45 = some (.struct (fieldsOf Tryz.prog 45)) := by kernel_rfl
theorem u_cell : Tryz.prog.underlying 47 = some (.struct (fieldsOf Tryz.prog 47)) := by kernel_rfl
theorem u_screen : Tryz.prog.underlying 24 = some (.struct (fieldsOf Tryz.prog 24)) := by kernel_rfl
theorem u_int : Tryz.prog.underlying 3 = some (.int .i64) := by kernel_rfl
theorem u_bool : Tryz.prog.underlying 4 = some .bool := by kernel_rfl
theorem u_rune : Tryz.prog.underlying 21 = some (.int .i32) := by kernel_rfl
set_option maxRecDepth 100000 in
/-- The cells of one cell. -/
theorem cell_of_trod {n : Nat} {cs : List Value} {y : DataW H × List MemPlace} (h : DataW.trod enc Tryz.prog w base spare held n 47 cs = some y) : ∃ c : Ce, cs = c.cs ∧ c.wf := by
  obtain ⟨xs, m, rfl, _, hl, hxl, hf⟩ := DataW.trod_struct u_cell h
  have h5 : cs.length = 5 := by rw [hl]; kernel_rfl
  obtain ⟨f0, hf0, o0, c0, t0⟩ : ∃ f, (fieldsOf Tryz.prog 47)[0]? = some f ∧ f.offset = 0 ∧ Tryz.prog.cellsOf f.type = 1 ∧ f.type = 21 := ⟨_, rfl, rfl, by kernel_rfl, rfl⟩
  obtain ⟨f1, hf1, o1, c1, t1⟩ : ∃ f, (fieldsOf Tryz.prog 47)[1]? = some f ∧ f.offset = 1 ∧ Tryz.prog.cellsOf f.type = 3 ∧ f.type = 45 := ⟨_, rfl, rfl, by kernel_rfl, rfl⟩
  obtain ⟨f2, hf2, o2, c2, t2⟩ : ∃ f, (fieldsOf Tryz.prog 47)[2]? = some f ∧ f.offset = 4 ∧ Tryz.prog.cellsOf f.type = 1 ∧ f.type = 3 := ⟨_, rfl, rfl, by kernel_rfl, rfl⟩
  have hsz : (fieldsOf Tryz.prog 47).size = 3 := by kernel_rfl
  match cs, h5 with
  | [v0, v1, v2, v3, v4], _ =>
    have e0 := hf 0 f0 hf0
    have e1 := hf 1 f1 hf1
    have e2 := hf 2 f2 hf2
    rw [o0, c0, t0] at e0
    rw [o1, c1, t1] at e1
    rw [o2, c2, t2] at e2
    simp only [List.drop_zero, List.drop_succ_cons, List.take_succ_cons, List.take_zero] at e0 e1 e2
    obtain ⟨x0, hx0⟩ : ∃ x, xs[0]? = some x := ⟨_, List.getElem?_eq_getElem (by omega)⟩
    obtain ⟨x1, hx1⟩ : ∃ x, xs[1]? = some x := ⟨_, List.getElem?_eq_getElem (by omega)⟩
    obtain ⟨x2, hx2⟩ : ∃ x, xs[2]? = some x := ⟨_, List.getElem?_eq_getElem (by omega)⟩
    rw [hx0] at e0
    rw [hx1] at e1
    rw [hx2] at e2
    obtain ⟨a, ha, _, wa⟩ := DataW.trod_int u_rune e0
    obtain ⟨d, hd, _, wd⟩ := DataW.trod_int u_int e2
    have hs := struct_ints [.i64, .i64, .i64] u_attr (by kernel_rfl) (by kernel_rfl) (cs := [v1, v2, v3]) rfl e1
    obtain ⟨f, h1, w1⟩ := hs 0 .i64 rfl
    obtain ⟨g, h2, w2⟩ := hs 1 .i64 rfl
    obtain ⟨b, h3, w3⟩ := hs 2 .i64 rfl
    cases ha; cases hd; cases h1; cases h2; cases h3
    exact ⟨⟨a, f, g, b, d⟩, rfl, wa, w1, w2, w3, wd⟩
set_option maxRecDepth 100000 in
/-- A cell by value. -/
theorem cell_open {r : Reach} {b0 : Nat} {v : Value} {d : DataW H} {p : List MemPlace} (hv : Value.okWide Tryz.prog w r b0 47 v) (h : DataW.Trod enc Tryz.prog w base spare held 47 v d p) : ∃ c : Ce, v = c.val ∧ c.wf := by
  obtain ⟨cs, rfl, hsz⟩ := okWide_struct u_cell hv
  obtain ⟨fuel, hf⟩ := h
  obtain ⟨c, hc, hw⟩ := cell_of_trod (by simpa [Value.cells] using hf)
  refine ⟨c, ?_, hw⟩
  have : cs = c.cs.toArray := by rw [← hc]
  rw [this]; rfl
set_option maxRecDepth 100000 in
/-- A slice of cells. -/
theorem cells_open {fuel : Nat} {cs : List Value} {x : DataW H × List MemPlace} (h : DataW.trod enc Tryz.prog w base spare held fuel 22 cs = some x) :
    ∃ va l, cs = [va] ∧ Rd w 5 va l.length (cellsV l) ∧ NilOk va ∧ ∀ c ∈ l, Ce.wf c := by
  rcases DataW.trod_slice u_cells h with ⟨rfl, _⟩ | ⟨a, len, cap, elems, rest, n, _, rfl, _, _, hlc, _, _⟩
  · exact ⟨_, [], rfl, ⟨none, 0, rfl, Nat.le_refl _, rfl, fun j u hu => by simp [cellsV] at hu⟩, fun n c hv => by cases hv; rfl, fun c hc => by cases hc⟩
  · have hr := recs_cells u_cells (show Tryz.prog.cellsOf 47 = 5 by kernel_rfl) (by decide) h
    have hc : ∀ i, i < len → ∃ c : Ce, c.wf ∧ ∃ b o, a = ⟨b, o, none⟩ ∧ ∀ j, j < 5 → w.cell? ⟨b, o + i * 5 + j, none⟩ = c.cs[j]? := fun i hi => by
      obtain ⟨b, o, cs, n, y, ha, hcl, hat, ht⟩ := hr i hi
      obtain ⟨c, rfl, hw⟩ := cell_of_trod ht
      exact ⟨c, hw, b, o, by cases ha; rfl, hat⟩
    obtain ⟨F, hF⟩ : ∃ F : Nat → Ce, ∀ i, i < len → (F i).wf ∧ ∃ b o, a = ⟨b, o, none⟩ ∧ ∀ j, j < 5 → w.cell? ⟨b, o + i * 5 + j, none⟩ = (F i).cs[j]? :=
      ⟨fun i => if h : i < len then Classical.choose (hc i h) else .z, fun i hi => by simp only [dif_pos hi]; exact Classical.choose_spec (hc i hi)⟩
    have hll : ((List.range len).map F).length = len := by simp
    refine ⟨_, (List.range len).map F, rfl, ⟨some a, cap, by rw [hll], by rw [hll]; exact hlc, cellsV_len _, fun j u hu => ?_⟩, fun n c hv => (by cases hv), fun c hc => ?_⟩
    · have hj := (List.getElem?_eq_some_iff.1 hu).1
      rw [cellsV_len, hll] at hj
      have hi : j / 5 < len := by omega
      obtain ⟨_, b, o, ha, hat⟩ := hF (j / 5) hi
      have hget : ((List.range len).map F)[j / 5]? = some (F (j / 5)) := by simp [hi]
      have hcv := cellsV_at _ _ _ hget (j % 5) (by omega)
      rw [show j / 5 * 5 + j % 5 = j by omega, hu] at hcv
      have hw := hat (j % 5) (by omega)
      rw [← hcv, show o + j / 5 * 5 + j % 5 = o + j by omega] at hw
      exact ⟨b, o, by rw [ha], hw⟩
    · obtain ⟨i, hi, rfl⟩ := List.mem_map.1 hc
      exact (hF i (by simpa using hi)).1
set_option maxRecDepth 100000 in
/-- A screen by value. -/
theorem screen_open {r : Reach} {b0 : Nat} {v : Value} {d : DataW H} {p : List MemPlace} (hv : Value.okWide Tryz.prog w r b0 24 v) (h : DataW.Trod enc Tryz.prog w base spare held 24 v d p) :
    ∃ (rr cc y x : Int) (h : Bool) (t : ByteArray) (va : Value) (l : List Ce), v = scV rr cc va y x h t ∧ Rd w 5 va l.length (cellsV l) ∧ NilOk va ∧ (∀ c ∈ l, Ce.wf c) ∧ (Lit.int .i64 rr).wf = true ∧ (Lit.int .i64 cc).wf = true ∧ (Lit.int .i64 y).wf = true ∧ (Lit.int .i64 x).wf = true := by
  obtain ⟨cs, rfl, hsz⟩ := okWide_struct u_screen hv
  have h7 : cs.size = 7 := by rw [hsz]; kernel_rfl
  obtain ⟨fuel, hf⟩ := h
  obtain ⟨k⟩ := cs
  simp only [Value.cells] at hf
  obtain ⟨xs, m, rfl, _, _, hxl, hfl⟩ := DataW.trod_struct u_screen hf
  have hs7 : (fieldsOf Tryz.prog 24).size = 7 := by kernel_rfl
  have ft : ∀ j : Nat, ∀ T : TypeId, ((fieldsOf Tryz.prog 24)[j]?).map (fun f => (f.offset, f.type, Tryz.prog.cellsOf f.type)) = some (j, T, 1) → ∀ v, k[j]? = some v → ∃ x, DataW.trod enc Tryz.prog w base spare held m T [v] = some x := by
    intro j T hT v hj
    obtain ⟨f, hfj, he⟩ := Option.map_eq_some_iff.1 hT
    obtain ⟨ho, ht, hc⟩ := by simpa using he
    have e := hfl j f hfj
    have hjl := (List.getElem?_eq_some_iff.1 hj).1
    rw [ho, hc, ht, List.drop_eq_getElem_cons hjl] at e
    simp only [List.take_succ_cons, List.take_zero] at e
    have hjs : j < (fieldsOf Tryz.prog 24).size := (Array.getElem?_eq_some_iff.1 hfj).1
    rw [List.getElem?_eq_getElem (show j < xs.length by omega), show k[j] = v from Option.some.inj ((List.getElem?_eq_getElem hjl).symm.trans hj)] at e
    exact ⟨_, e⟩
  match k, h7, ft with
  | [v0, v1, v2, v3, v4, v5, v6], _, ft =>
    obtain ⟨_, e0⟩ := ft 0 3 (by kernel_rfl) v0 rfl
    obtain ⟨_, e1⟩ := ft 1 3 (by kernel_rfl) v1 rfl
    obtain ⟨_, e2⟩ := ft 2 22 (by kernel_rfl) v2 rfl
    obtain ⟨_, e3⟩ := ft 3 3 (by kernel_rfl) v3 rfl
    obtain ⟨_, e4⟩ := ft 4 3 (by kernel_rfl) v4 rfl
    obtain ⟨_, e5⟩ := ft 5 4 (by kernel_rfl) v5 rfl
    obtain ⟨_, e6⟩ := ft 6 9 (by kernel_rfl) v6 rfl
    obtain ⟨i0, h0, _, w0⟩ := DataW.trod_int u_int e0
    obtain ⟨i1, h1, _, w1⟩ := DataW.trod_int u_int e1
    obtain ⟨va, l, h2, hrd, hnk, hwf⟩ := cells_open e2
    obtain ⟨i3, h3, _, w3⟩ := DataW.trod_int u_int e3
    obtain ⟨i4, h4, _, w4⟩ := DataW.trod_int u_int e4
    obtain ⟨b5, h5, _⟩ := DataW.trod_bool u_bool e5
    obtain ⟨s6, h6, _⟩ := DataW.trod_string u_string e6
    cases h0; cases h1; cases h2; cases h3; cases h4; cases h5; cases h6
    exact ⟨i0, i1, i3, i4, b5, s6, _, l, rfl, hrd, hnk, hwf, w0, w1, w3, w4⟩
end
end Go.Proofs.YtmbdpcamhkdkmaaGreatDoor

namespace Go.Proofs.YtmbdpcamhkdkmaaGreatDoor
open Go.ChangeShapes Go.WideShapes Go.RowKit
set_option linter.unusedVariables false

def spansD (L : List (Int × Int)) : DataW Unit := .agg (L.map fun p => .agg ([p.1, p.2].map fun z => .lit (.int .i32 z)))
theorem gNone : Tryz.prog.globalNamed "tickertape/cell.none" = some 0 := by kernel_rfl
theorem gWide : Tryz.prog.globalNamed "tickertape/cell.wide" = some 1 := by kernel_rfl
theorem tNone : (Tryz.prog.globals[0]?).map (·.type) = some 130 := by kernel_rfl
theorem tWide : (Tryz.prog.globals[1]?).map (·.type) = some 131 := by kernel_rfl
theorem uNone : Tryz.prog.underlying 130 = some (.array 4 129) := by kernel_rfl
theorem uWide : Tryz.prog.underlying 131 = some (.array 10 129) := by kernel_rfl
theorem uSpan : Tryz.prog.underlying 129 = some (.struct (fieldsOf Tryz.prog 129)) := by kernel_rfl
theorem cSpan : Tryz.prog.cellsOf 129 = 2 := by kernel_rfl
theorem fSpan : ∀ (i : Nat) (f : Field), (fieldsOf Tryz.prog 129)[i]? = some f → Tryz.prog.underlying f.type = some (.int .i32) ∧ f.offset = i ∧ Tryz.prog.cellsOf f.type = 1 := by
  have hs : (fieldsOf Tryz.prog 129).size = 2 := by kernel_rfl
  have hk : ((fieldsOf Tryz.prog 129).toList.map fun f => (Tryz.prog.underlying f.type, f.offset, Tryz.prog.cellsOf f.type)) = [(some (.int .i32), 0, 1), (some (.int .i32), 1, 1)] := by kernel_rfl
  intro i f hf
  have hi := (Array.getElem?_eq_some_iff.1 hf).1
  have h := congrArg (·[i]?) hk
  simp only [List.getElem?_map, Array.getElem?_toList, hf, Option.map_some] at h
  rcases (show i = 0 ∨ i = 1 by omega) with rfl | rfl
  · have := Option.some.inj h; simp only [Prod.mk.injEq] at this; exact this
  · have := Option.some.inj h; simp only [Prod.mk.injEq] at this; exact this
set_option maxRecDepth 100000 in
theorem spans_of_reads {W : World} {name : String} {g : Nat} {t : TypeId} {L : List (Int × Int)} (hg : Tryz.prog.globalNamed name = some g) (ht : (Tryz.prog.globals[g]?).map (·.type) = some t) (hu : Tryz.prog.underlying t = some (.array L.length 129))
    (h : Lib.VarReads Tryz.prog W name (spansD L)) : Rd W 2 (.slice (some ⟨g, 0, none⟩) L.length L.length) L.length (spansV L) := by
  obtain ⟨g', t', cs, fuel, p, h1, h2, hv, hd⟩ := h
  obtain rfl := Option.some.inj (hg.symm.trans h1)
  obtain rfl := Option.some.inj (ht.symm.trans h2)
  refine ⟨_, _, rfl, Nat.le_refl _, spansV_len L, fun j u hj => ⟨g, 0, rfl, ?_⟩⟩
  have hjl := (List.getElem?_eq_some_iff.1 hj).1
  rw [spansV_len] at hjl
  have hi : j / 2 < L.length := by omega
  obtain ⟨fu, d, q, hds, hel⟩ := Lib.array_elem hu hd (j / 2) hi
  obtain ⟨⟨f, s⟩, hp⟩ : ∃ p, L[j / 2]? = some p := ⟨L[j / 2], List.getElem?_eq_getElem hi⟩
  have hd2 : d = .agg ([f, s].map fun z => .lit (.int .i32 z)) := by
    rw [List.getElem?_map, hp] at hds
    exact (Option.some.inj hds).symm
  subst hd2
  rw [cSpan] at hel
  have hcs := Lib.ints_of_struct uSpan fSpan (by rw [cSpan]; kernel_rfl) hel
  have hat : cs.toList[j]? = ([f, s].map fun z => Value.int .i32 z)[j % 2]? := by
    rw [← hcs, List.getElem?_take_of_lt (by omega), List.getElem?_drop]
    congr 1
    omega
  have hsv : (spansV L)[j]? = ([f, s].map fun z => Value.int .i32 z)[j % 2]? := by
    have := spansV_at L (j / 2) (f, s) hp
    rcases (show j % 2 = 0 ∨ j % 2 = 1 by omega) with h | h
    · rw [h, show j = j / 2 * 2 by omega]
      have e := this.1
      simpa using e
    · rw [h]
      have e := this.2
      rw [show j / 2 * 2 + 1 = j by omega] at e
      simpa using e
  rw [hsv, ← hat] at hj
  rw [Nat.zero_add, World.var?_cell hg hv j, ← Array.getElem?_toList]
  exact hj
/-- What the rows list of package cell's tables. -/
def cellLaid : List (String × DataW Unit) := [("tickertape/cell.wide", Rows.laid_tickertape_cell_wide), ("tickertape/cell.none", Rows.laid_tickertape_cell_none)]
theorem tab_of_laid {W : World} (h : laidMetH Tryz.prog cellLaid W) : Tab W := by
  rw [MakeChecks.laidMetH_plain _ _ _ (by kernel_rfl)] at h
  have hw := Lib.laidMet.reads h (n := "tickertape/cell.wide") (d := spansD wideL) (List.mem_cons_self ..)
  have hn := Lib.laidMet.reads h (n := "tickertape/cell.none") (d := spansD noneL) (List.mem_cons_of_mem _ (List.mem_cons_self ..))
  exact ⟨spans_of_reads (L := noneL) gNone tNone uNone hn, spans_of_reads (L := wideL) gWide tWide uWide hw⟩
end Go.Proofs.YtmbdpcamhkdkmaaGreatDoor
