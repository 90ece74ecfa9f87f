
/-
  An argument that is a struct of three whole numbers, by value.
-/
import Derived.Test.YtioabdoghophlaaDoorR
namespace Go.Proofs.YtioabdoghophlaaDoor
open Go.ChangeShapes Go.WideShapes Go.Deep Go.RowKit
set_option linter.unusedVariables false
section
variable {H : Type} {enc : TypeId × Value → H} {P : Program} {w : World} {base : Nat} {spare : Nat → Bool} {held : Bool}
theorem struct_ints {e : TypeId} {fuel : Nat} {cs : List Value} {y : DataW H × List MemPlace} (ks : List IntKind) (he : P.underlying e = some (.struct (fieldsOf P e)))
    (hone : oneCellFields P (fieldsOf P e) = true) (hk : (fieldsOf P e).toList.map (fun f => P.underlying f.type) = ks.map fun k => some (TypeDesc.int k)) (hcl : cs.length = ks.length)
    (ht' : DataW.trod enc P w base spare held fuel e cs = some y) : ∀ (j : Nat) (k : IntKind), ks[j]? = some k → ∃ z : Int, cs[j]? = some (Value.int k z) ∧ (Lit.int k z).wf = true := by
  intro j k hj
  obtain ⟨ys, n', hn', hy, hlen, hyl, hf⟩ := DataW.trod_struct he ht'
  have hjl : j < ks.length := (List.getElem?_eq_some_iff.1 hj).1
  have hfl : (fieldsOf P e).size = ks.length := by have := congrArg List.length hk; simpa using this
  obtain ⟨f, hfj⟩ : ∃ f, (fieldsOf P e)[j]? = some f := ⟨_, Array.getElem?_eq_getElem (by omega)⟩
  obtain ⟨ho, h1⟩ := hone_of hone j f hfj
  have hu : P.underlying f.type = some (.int k) := by
    have := congrArg (fun l => l[j]?) hk
    simp only [List.getElem?_map, Array.getElem?_toList, hfj, hj, Option.map_some] at this
    exact Option.some.inj this
  have hv := hf j f hfj
  rw [ho, h1, List.drop_eq_getElem_cons (by omega)] at hv
  simp only [List.take_succ_cons, List.take_zero] at hv
  have hys : ys[j]? = some (ys[j]'(by omega)) := List.getElem?_eq_getElem (by omega)
  rw [hys] at hv
  obtain ⟨z, hz, _, hwf⟩ := DataW.trod_int hu hv
  refine ⟨z, ?_, hwf⟩
  rw [List.getElem?_eq_getElem (by omega)]
  exact congrArg some (List.cons.inj hz).1
theorem agg3_ints {t : TypeId} {r : Reach} {b0 : Nat} {v : Value} {d : DataW H} {p : List MemPlace} (he : P.underlying t = some (.struct (fieldsOf P t)))
    (hone : oneCellFields P (fieldsOf P t) = true) (hk : (fieldsOf P t).toList.map (fun f => P.underlying f.type) = ([.i64, .i64, .i64] : List IntKind).map fun k => some (TypeDesc.int k)) (hC : P.cellsOf t = 3)
    (hv : Value.okWide P w r b0 t v) (h : DataW.Trod enc P w base spare held t v d p) :
    ∃ x y z : Int, v = .agg #[.int .i64 x, .int .i64 y, .int .i64 z] ∧ (Lit.int .i64 x).wf = true ∧ (Lit.int .i64 y).wf = true ∧ (Lit.int .i64 z).wf = true := by
  obtain ⟨cs, rfl, hsz⟩ := okWide_struct he hv
  rw [hC] at hsz
  obtain ⟨fuel, hf⟩ := h
  obtain ⟨l⟩ := cs
  match l, hsz, hf with
  | [c0, c1, c2], _, hf =>
    have hs := struct_ints [.i64, .i64, .i64] he hone hk (cs := [c0, c1, c2]) rfl (by simpa [Value.cells] using hf)
    obtain ⟨x, h0, w0⟩ := hs 0 .i64 rfl
    obtain ⟨y, h1, w1⟩ := hs 1 .i64 rfl
    obtain ⟨z, h2, w2⟩ := hs 2 .i64 rfl
    cases h0; cases h1; cases h2
    exact ⟨x, y, z, rfl, w0, w1, w2⟩
end
end Go.Proofs.YtioabdoghophlaaDoor
