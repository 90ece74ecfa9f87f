/-
  An argument that is a slice of screens.
-/
import Derived.Test.YtiojhfaeeelfeaaDoorMg34
import Derived.Test.YtiojhfaeeelfeaaDoorMg18
namespace Go.Proofs.YtiojhfaeeelfeaaDoor
open Go.ChangeShapes Go.WideShapes Go.Deep Go.RowKit
set_option linter.unusedVariables false

def Sc.z : Sc := ⟨0, 0, [], 0, 0, false, ⟨#[]⟩⟩
/-- v is a slice of these screens, to be read. -/
def OpsA (w : World) (a : Option Addr) (c : Nat) (P : List Sc) : Prop :=
  P.length ≤ c ∧ ∀ i, i < P.length → ∃ g o va, a = some ⟨g, o, none⟩ ∧ Rd w 5 va (P.getD i .z).l.length (cellsV (P.getD i .z).l) ∧ ∀ j, j < 7 → w.cell? ⟨g, o + i * 7 + j, none⟩ = [Value.int .i64 (P.getD i .z).r, .int .i64 (P.getD i .z).c, va, .int .i64 (P.getD i .z).y, .int .i64 (P.getD i .z).x, .bool (P.getD i .z).h, .string (P.getD i .z).t][j]?
section
variable {H : Type} {enc : TypeId × Value → H} {w : World} {base : Nat} {held : Bool}
theorem u_screens : Tryd.prog.underlying 56 = some (.slice 26) := by kernel_rfl
set_option maxRecDepth 100000 in
theorem scr_of_trod {n : Nat} {k : List Value} {y : DataW H × List MemPlace} (h : DataW.trod enc Tryd.prog w base (fun _ => true) held n 26 k = some y) :
    ∃ (s : Sc) (va : Value), k = [.int .i64 s.r, .int .i64 s.c, va, .int .i64 s.y, .int .i64 s.x, .bool s.h, .string s.t] ∧ Rd w 5 va s.l.length (cellsV s.l) := by
  obtain ⟨xs, m, rfl, _, hl, hxl, hfl⟩ := DataW.trod_struct u_screen h
  have h7 : k.length = 7 := by rw [hl]; kernel_rfl
  have hs7 : (fieldsOf Tryd.prog 26).size = 7 := by kernel_rfl
  have ft : ∀ j : Nat, ∀ T : TypeId, ((fieldsOf Tryd.prog 26)[j]?).map (fun f => (f.offset, f.type, Tryd.prog.cellsOf f.type)) = some (j, T, 1) → ∀ v, k[j]? = some v → ∃ x, DataW.trod enc Tryd.prog w base (fun _ => true) held m T [v] = some x := by
    intro j T hT v hj
    obtain ⟨f, hfj, he⟩ := Option.map_eq_some_iff.1 hT
    obtain ⟨ho, ht, hc⟩ := by simpa using he
    have e := hfl j f hfj
    have hjl := (List.getElem?_eq_some_iff.1 hj).1
    rw [ho, hc, ht, List.drop_eq_getElem_cons hjl] at e
    simp only [List.take_succ_cons, List.take_zero] at e
    have hjs : j < (fieldsOf Tryd.prog 26).size := (Array.getElem?_eq_some_iff.1 hfj).1
    rw [List.getElem?_eq_getElem (show j < xs.length by omega), show k[j] = v from Option.some.inj ((List.getElem?_eq_getElem hjl).symm.trans hj)] at e
    exact ⟨_, e⟩
  match k, h7, ft with
  | [v0, v1, v2, v3, v4, v5, v6], _, ft =>
    obtain ⟨_, e0⟩ := ft 0 3 (by kernel_rfl) v0 rfl
    obtain ⟨_, e1⟩ := ft 1 3 (by kernel_rfl) v1 rfl
    obtain ⟨_, e2⟩ := ft 2 24 (by kernel_rfl) v2 rfl
    obtain ⟨_, e3⟩ := ft 3 3 (by kernel_rfl) v3 rfl
    obtain ⟨_, e4⟩ := ft 4 3 (by kernel_rfl) v4 rfl
    obtain ⟨_, e5⟩ := ft 5 4 (by kernel_rfl) v5 rfl
    obtain ⟨_, e6⟩ := ft 6 9 (by kernel_rfl) v6 rfl
    obtain ⟨i0, h0, _, w0⟩ := DataW.trod_int u_int e0
    obtain ⟨i1, h1, _, w1⟩ := DataW.trod_int u_int e1
    obtain ⟨va, l, h2, hrd, hnk, hwf⟩ := cells_open e2
    obtain ⟨i3, h3, _, w3⟩ := DataW.trod_int u_int e3
    obtain ⟨i4, h4, _, w4⟩ := DataW.trod_int u_int e4
    obtain ⟨b5, h5, _⟩ := DataW.trod_bool u_bool e5
    obtain ⟨s6, h6, _⟩ := DataW.trod_string u_string e6
    cases h0; cases h1; cases h2; cases h3; cases h4; cases h5; cases h6
    exact ⟨⟨i0, i1, l, i3, i4, b5, s6⟩, _, rfl, hrd⟩
theorem ops_open {fuel : Nat} {cs : List Value} {x : DataW H × List MemPlace} (h : DataW.trod enc Tryd.prog w base (fun _ => true) held fuel 56 cs = some x) :
    ∃ a c l, cs = [.slice a (List.length l) c] ∧ OpsA w a c l := by
  rcases DataW.trod_slice u_screens h with ⟨rfl, _⟩ | ⟨a, len, cap, elems, rest, n, _, rfl, _, _, hlc, _, _⟩
  · exact ⟨none, 0, [], rfl, Nat.le_refl _, fun i hi => absurd hi (Nat.not_lt_zero _)⟩
  · have hr := recs_cells u_screens (show Tryd.prog.cellsOf 26 = 7 by kernel_rfl) (by decide) h
    have hc : ∀ i, i < len → ∃ q : Sc, ∃ g o va, a = ⟨g, o, none⟩ ∧ Rd w 5 va q.l.length (cellsV q.l) ∧ ∀ j, j < 7 → w.cell? ⟨g, o + i * 7 + j, none⟩ = [Value.int .i64 q.r, .int .i64 q.c, va, .int .i64 q.y, .int .i64 q.x, .bool q.h, .string q.t][j]? := fun i hi => by
      obtain ⟨b, o, cs, n, y, ha, hcl, hat, ht⟩ := hr i hi
      obtain ⟨q, va, rfl, hrd⟩ := scr_of_trod ht
      exact ⟨q, b, o, va, by cases ha; rfl, hrd, hat⟩
    obtain ⟨F, hF⟩ : ∃ F : Nat → Sc, ∀ i, i < len → ∃ g o va, a = ⟨g, o, none⟩ ∧ Rd w 5 va (F i).l.length (cellsV (F i).l) ∧ ∀ j, j < 7 → w.cell? ⟨g, o + i * 7 + j, none⟩ = [Value.int .i64 (F i).r, .int .i64 (F i).c, va, .int .i64 (F i).y, .int .i64 (F i).x, .bool (F i).h, .string (F i).t][j]? :=
      ⟨fun i => if h : i < len then Classical.choose (hc i h) else .z, fun i hi => by simp only [dif_pos hi]; exact Classical.choose_spec (hc i hi)⟩
    have hll : ((List.range len).map F).length = len := by simp
    refine ⟨some a, cap, (List.range len).map F, by rw [hll], by rw [hll]; exact hlc, fun i hi => ?_⟩
    rw [hll] at hi
    have e : ((List.range len).map F).getD i .z = F i := by simp [List.getD, hi]
    rw [e]
    obtain ⟨g, o, va, ha, h2⟩ := hF i hi
    exact ⟨g, o, va, by rw [ha], h2⟩
end
end Go.Proofs.YtiojhfaeeelfeaaDoor
