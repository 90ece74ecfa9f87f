
/-
  An argument that is a slice of the law's operations (chapter 27).
-/
import Derived.Test.YtcgdmidjejmjhaaDoorOpenPk
namespace Go.Proofs.YtcgdmidjejmjhaaDoor
open Go.ChangeShapes Go.WideShapes Go.Deep Go.RowKit
set_option linter.unusedVariables false

/-- An operation: its kind, K, From, B. -/
structure O27 where
  kind : Int
  k : Int
  from_ : Int
  b : List Int
def O27.z : O27 := ⟨0, 0, 0, []⟩
structure O27.Ok (o : O27) : Prop where
  kind : -9223372036854775808 ≤ o.kind ∧ o.kind ≤ 9223372036854775807
  k : -9223372036854775808 ≤ o.k ∧ o.k ≤ 9223372036854775807
  from_ : -9223372036854775808 ≤ o.from_ ∧ o.from_ ≤ 9223372036854775807
/-- v is a slice of these operations, to be read. -/
def OpsA (w : World) (a : Option Addr) (c : Nat) (l : List O27) : Prop :=
  l.length ≤ c ∧ ∀ i, i < l.length → (l.getD i .z).Ok ∧ ∃ g o u, a = some ⟨g, o, none⟩ ∧ w.cell? ⟨g, o + i * 4, none⟩ = some (.int .i64 (l.getD i .z).kind) ∧ w.cell? ⟨g, o + i * 4 + 1, none⟩ = some (.int .i64 (l.getD i .z).k) ∧ w.cell? ⟨g, o + i * 4 + 2, none⟩ = some (.int .i64 (l.getD i .z).from_) ∧ w.cell? ⟨g, o + i * 4 + 3, none⟩ = some u ∧ By w u (l.getD i .z).b
section
variable {H : Type} {enc : TypeId × Value → H} {w : World} {base : Nat} {held : Bool}
theorem u_ops : Tryd.prog.underlying 24 = some (.slice 36) := by kernel_rfl
theorem u_op27 : Tryd.prog.underlying 36 = some (.struct (fieldsOf Tryd.prog 36)) := by kernel_rfl
set_option maxRecDepth 100000 in
theorem op_of_trod {n : Nat} {cs : List Value} {y : DataW H × List MemPlace} (h : DataW.trod enc Tryd.prog w base (fun _ => true) held n 36 cs = some y) :
    ∃ (o : O27) (u : Value), cs = [.int .i64 o.kind, .int .i64 o.k, .int .i64 o.from_, u] ∧ By w u o.b ∧ o.Ok := by
  obtain ⟨xs, m, rfl, _, hl, hxl, hfl⟩ := DataW.trod_struct u_op27 h
  have h4 : cs.length = 4 := by rw [hl]; kernel_rfl
  have hs4 : (fieldsOf Tryd.prog 36).size = 4 := by kernel_rfl
  have ft : ∀ j : Nat, ∀ T : TypeId, ((fieldsOf Tryd.prog 36)[j]?).map (fun f => (f.offset, f.type, Tryd.prog.cellsOf f.type)) = some (j, T, 1) → ∀ v, cs[j]? = some v → ∃ x, DataW.trod enc Tryd.prog w base (fun _ => true) held m T [v] = some x := by
    intro j T hT v hj
    obtain ⟨f, hfj, he⟩ := Option.map_eq_some_iff.1 hT
    obtain ⟨ho, ht, hc⟩ := by simpa using he
    have e := hfl j f hfj
    have hjl := (List.getElem?_eq_some_iff.1 hj).1
    rw [ho, hc, ht, List.drop_eq_getElem_cons hjl] at e
    simp only [List.take_succ_cons, List.take_zero] at e
    have hjs : j < (fieldsOf Tryd.prog 36).size := (Array.getElem?_eq_some_iff.1 hfj).1
    rw [List.getElem?_eq_getElem (show j < xs.length by omega), show cs[j] = v from Option.some.inj ((List.getElem?_eq_getElem hjl).symm.trans hj)] at e
    exact ⟨_, e⟩
  match cs, h4, ft with
  | [v0, v1, v2, v3], _, ft =>
    obtain ⟨_, e0⟩ := ft 0 3 (by kernel_rfl) v0 rfl
    obtain ⟨_, e1⟩ := ft 1 3 (by kernel_rfl) v1 rfl
    obtain ⟨_, e2⟩ := ft 2 3 (by kernel_rfl) v2 rfl
    obtain ⟨_, e3⟩ := ft 3 22 (by kernel_rfl) v3 rfl
    obtain ⟨i0, h0, _, w0⟩ := DataW.trod_int u_int' e0
    obtain ⟨i1, h1, _, w1⟩ := DataW.trod_int u_int' e1
    obtain ⟨i2, h2, _, w2⟩ := DataW.trod_int u_int' e2
    obtain ⟨a, c, L, h3, hby⟩ := bytes_open e3
    cases h0; cases h1; cases h2; cases h3
    exact ⟨⟨i0, i1, i2, L⟩, _, rfl, hby, wf_i64_b w0, wf_i64_b w1, wf_i64_b w2⟩
theorem ops_open {fuel : Nat} {cs : List Value} {x : DataW H × List MemPlace} (h : DataW.trod enc Tryd.prog w base (fun _ => true) held fuel 24 cs = some x) :
    ∃ a c l, cs = [.slice a (List.length l) c] ∧ OpsA w a c l := by
  rcases DataW.trod_slice u_ops h with ⟨rfl, _⟩ | ⟨a, len, cap, elems, rest, n, _, rfl, _, _, hlc, _, _⟩
  · exact ⟨none, 0, [], rfl, Nat.le_refl _, fun i hi => absurd hi (Nat.not_lt_zero _)⟩
  · have hr := recs_cells u_ops (show Tryd.prog.cellsOf 36 = 4 by kernel_rfl) (by decide) h
    have hc : ∀ i, i < len → ∃ q : O27, q.Ok ∧ ∃ g o u, a = ⟨g, o, none⟩ ∧ w.cell? ⟨g, o + i * 4, none⟩ = some (.int .i64 q.kind) ∧ w.cell? ⟨g, o + i * 4 + 1, none⟩ = some (.int .i64 q.k) ∧ w.cell? ⟨g, o + i * 4 + 2, none⟩ = some (.int .i64 q.from_) ∧ w.cell? ⟨g, o + i * 4 + 3, none⟩ = some u ∧ By w u q.b := fun i hi => by
      obtain ⟨b, o, cs, n, y, ha, hcl, hat, ht⟩ := hr i hi
      obtain ⟨q, u, rfl, hby, hok⟩ := op_of_trod ht
      exact ⟨q, hok, b, o, u, by cases ha; rfl, hat 0 (by decide), hat 1 (by decide), hat 2 (by decide), hat 3 (by decide), hby⟩
    obtain ⟨F, hF⟩ : ∃ F : Nat → O27, ∀ i, i < len → (F i).Ok ∧ ∃ g o u, a = ⟨g, o, none⟩ ∧ w.cell? ⟨g, o + i * 4, none⟩ = some (.int .i64 (F i).kind) ∧ w.cell? ⟨g, o + i * 4 + 1, none⟩ = some (.int .i64 (F i).k) ∧ w.cell? ⟨g, o + i * 4 + 2, none⟩ = some (.int .i64 (F i).from_) ∧ w.cell? ⟨g, o + i * 4 + 3, none⟩ = some u ∧ By w u (F i).b :=
      ⟨fun i => if h : i < len then Classical.choose (hc i h) else .z, fun i hi => by simp only [dif_pos hi]; exact Classical.choose_spec (hc i hi)⟩
    have hll : ((List.range len).map F).length = len := by simp
    refine ⟨some a, cap, (List.range len).map F, by rw [hll], by rw [hll]; exact hlc, fun i hi => ?_⟩
    rw [hll] at hi
    have e : ((List.range len).map F).getD i .z = F i := by simp [List.getD, hi]
    rw [e]
    obtain ⟨h1, g, o, u, ha, h2⟩ := hF i hi
    exact ⟨h1, g, o, u, by rw [ha], h2⟩
end
end Go.Proofs.YtcgdmidjejmjhaaDoor
