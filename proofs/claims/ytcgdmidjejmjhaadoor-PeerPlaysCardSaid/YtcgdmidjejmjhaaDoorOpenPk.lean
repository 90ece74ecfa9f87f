
/-
  Arguments that are packets, by value.
-/
import Derived.Test.YtcgdmidjejmjhaaDoorPk
import Derived.Test.YtcgdmidjejmjhaaDoorR
import Derived.OpenShut
import Derived.ChangeSlices
namespace Go.Proofs.YtcgdmidjejmjhaaDoor
open Go.ChangeShapes Go.WideShapes Go.Deep Go.RowKit
set_option linter.unusedVariables false
section
variable {H : Type} {enc : TypeId × Value → H} {w : World} {base : Nat} {held : Bool}
theorem u_byte' : Tryd.prog.underlying 5 = some (.int .u8) := by kernel_rfl
theorem u_int' : Tryd.prog.underlying 3 = some (.int .i64) := by kernel_rfl
theorem u_u64' : Tryd.prog.underlying 23 = some (.int .u64) := by kernel_rfl
theorem u_packet : Tryd.prog.underlying 48 = some (.struct (fieldsOf Tryd.prog 48)) := by kernel_rfl
theorem bytes_open {fuel : Nat} {cs : List Value} {x : DataW H × List MemPlace} (h : DataW.trod enc Tryd.prog w base (fun _ => true) held fuel 22 cs = some x) :
    ∃ a c L, cs = [.slice a (List.length L) c] ∧ By w (.slice a L.length c) L := by
  rcases open_ints u_bytes u_byte' (by kernel_rfl) h with ⟨rfl, _⟩ | ⟨a, len, cap, zs, rfl, _, hl, hm, hz, _, hcell, hwz⟩
  · exact ⟨none, 0, [], rfl, By.nilv w 0 rfl⟩
  · obtain ⟨h1, h2, h3⟩ := Rd.ofRow (w := w) (k := .u8) (a := some a) (len := len) (cap := cap) (zs := zs) (.inr ⟨a, rfl, hl, hm, by simpa using hz, hcell, hwz⟩)
    refine ⟨some a, cap, zs.take len, by rw [h2], ?_, fun n c e => (by cases e), fun x hx => wf_u8_b (h3 x hx)⟩
    rw [h2]
    exact h1
set_option maxRecDepth 100000 in
/-- A packet by value. -/
theorem packet_open {r : Reach} {b0 : Nat} {v : Value} {d : DataW H} {p : List MemPlace} (hv : Value.okWide Tryd.prog w r b0 48 v) (h : DataW.Trod enc Tryd.prog w base (fun _ => true) held 48 v d p) :
    ∃ (pd pv pn : Int) (pa : Option Addr) (pc : Nat) (pb : List Int), v = pkV ⟨pd, pv, pn, pb⟩ (.slice pa pb.length pc) ∧ By w (.slice pa pb.length pc) pb ∧ Pk.Ok ⟨pd, pv, pn, pb⟩ := by
  obtain ⟨cs, rfl, hsz⟩ := okWide_struct u_packet hv
  have h4 : cs.size = 4 := by rw [hsz]; kernel_rfl
  obtain ⟨fuel, hf⟩ := h
  obtain ⟨k⟩ := cs
  simp only [Value.cells] at hf
  obtain ⟨xs, m, rfl, _, _, hxl, hfl⟩ := DataW.trod_struct u_packet hf
  have hs4 : (fieldsOf Tryd.prog 48).size = 4 := by kernel_rfl
  have ft : ∀ j : Nat, ∀ T : TypeId, ((fieldsOf Tryd.prog 48)[j]?).map (fun f => (f.offset, f.type, Tryd.prog.cellsOf f.type)) = some (j, T, 1) → ∀ v, k[j]? = some v → ∃ x, DataW.trod enc Tryd.prog w base (fun _ => true) held m T [v] = some x := by
    intro j T hT v hj
    obtain ⟨f, hfj, he⟩ := Option.map_eq_some_iff.1 hT
    obtain ⟨ho, ht, hc⟩ := by simpa using he
    have e := hfl j f hfj
    have hjl := (List.getElem?_eq_some_iff.1 hj).1
    rw [ho, hc, ht, List.drop_eq_getElem_cons hjl] at e
    simp only [List.take_succ_cons, List.take_zero] at e
    have hjs : j < (fieldsOf Tryd.prog 48).size := (Array.getElem?_eq_some_iff.1 hfj).1
    rw [List.getElem?_eq_getElem (show j < xs.length by omega), show k[j] = v from Option.some.inj ((List.getElem?_eq_getElem hjl).symm.trans hj)] at e
    exact ⟨_, e⟩
  match k, h4, ft with
  | [v0, v1, v2, v3], _, ft =>
    obtain ⟨_, e0⟩ := ft 0 3 (by kernel_rfl) v0 rfl
    obtain ⟨_, e1⟩ := ft 1 3 (by kernel_rfl) v1 rfl
    obtain ⟨_, e2⟩ := ft 2 23 (by kernel_rfl) v2 rfl
    obtain ⟨_, e3⟩ := ft 3 22 (by kernel_rfl) v3 rfl
    obtain ⟨i0, h0, _, w0⟩ := DataW.trod_int u_int' e0
    obtain ⟨i1, h1, _, w1⟩ := DataW.trod_int u_int' e1
    obtain ⟨i2, h2, _, w2⟩ := DataW.trod_int u_u64' e2
    obtain ⟨a, c, L, h3, hby⟩ := bytes_open e3
    cases h0; cases h1; cases h2; cases h3
    exact ⟨i0, i1, i2, a, c, L, rfl, hby, wf_i64_b w0, wf_i64_b w1, wf_u64_b w2⟩
end
end Go.Proofs.YtcgdmidjejmjhaaDoor
