
/-
  An argument that is a slice of structs whose fields are whole numbers: its cells.
-/
import Derived.Test.YtmekakecdgblaaaK
import Derived.Deep.Slices
import Derived.Deep.Fields
import Derived.ChangeSame
namespace Go.Proofs.Ytmekakecdgblaaa
open Go.ChangeShapes Go.WideShapes Go.Deep Go.RowKit
set_option linter.unusedVariables false

def fieldsOf (P : Program) (e : TypeId) : Array Field := match P.underlying e with | some (.struct fs) => fs | _ => #[]

section
variable {H : Type} {enc : TypeId × Value → H} {P : Program} {w : World} {base : Nat} {spare : Nat → Bool} {held : Bool}
theorem recs_cells {t e : TypeId} {c : Nat} {fuel : Nat} {a : Option Addr} {len cap : Nat} {x : DataW H × List MemPlace} (ht : P.underlying t = some (.slice e)) (hC : P.cellsOf e = c) (hc0 : 0 < c)
    (h : DataW.trod enc P w base spare held fuel t [.slice a len cap] = some x) : ∀ i, i < len →
      ∃ b o cs n y, a = some ⟨b, o, none⟩ ∧ cs.length = c ∧ (∀ j, j < c → w.cell? ⟨b, o + i * c + j, none⟩ = cs[j]?) ∧ DataW.trod enc P w base spare held n e cs = some y := by
  intro i hi
  rcases open_slice ht h with ⟨h0, _⟩ | ⟨a', len', cap', m, n, D, Pl, hcs, hb, hl, hm, hmm, hx, hrow⟩
  · cases h0; omega
  · cases hcs
    have him : i < m := by rw [hmm]; split <;> omega
    have h0 : w.cell? ((a'.add (0 * c)).add 0) ≠ none := by
      obtain ⟨cs0, hc, _⟩ := hrow 0 (by omega)
      rw [hC] at hc
      obtain ⟨_, hcl, hat⟩ := World.cells?_some hc
      rw [hat 0 hc0, List.getElem?_eq_getElem (by omega)]
      simp
    obtain ⟨cs', hc, ht'⟩ := hrow i him
    rw [hC] at hc
    obtain ⟨_, hcl, hat⟩ := World.cells?_some hc
    cases a' with
    | mk b o s =>
      cases s with
      | none => exact ⟨b, o, cs', n, _, rfl, hcl, fun j hj => by rw [← hat j hj, Addr.add_lit, Addr.add_lit], ht'⟩
      | some s =>
        exfalso
        refine h0 ?_
        simp only [Addr.add, Nat.zero_mul, if_true, World.cell?, Option.isSome_some]
        split <;> rfl
theorem recs_ints {t e : TypeId} {fuel : Nat} {a : Option Addr} {len cap : Nat} {x : DataW H × List MemPlace} (ks : List IntKind) (ht : P.underlying t = some (.slice e)) (he : P.underlying e = some (.struct (fieldsOf P e)))
    (hone : oneCellFields P (fieldsOf P e) = true) (hk : (fieldsOf P e).toList.map (fun f => P.underlying f.type) = ks.map fun k => some (.int k)) (hC : P.cellsOf e = ks.length) (hc0 : 0 < ks.length)
    (h : DataW.trod enc P w base spare held fuel t [.slice a len cap] = some x) : ∀ i, i < len →
      ∃ b o, a = some ⟨b, o, none⟩ ∧ ∀ j k, ks[j]? = some k → ∃ z, w.cell? ⟨b, o + i * ks.length + j, none⟩ = some (.int k z) ∧ (Lit.int k z).wf = true := by
  intro i hi
  obtain ⟨b, o, cs, n, y, rfl, hcl, hat, ht'⟩ := recs_cells ht hC hc0 h i hi
  refine ⟨b, o, rfl, fun j k hj => ?_⟩
  obtain ⟨ys, n', hn', hy, hlen, hyl, hf⟩ := DataW.trod_struct he ht'
  have hjl : j < ks.length := (List.getElem?_eq_some_iff.1 hj).1
  have hfl : (fieldsOf P e).size = ks.length := by have := congrArg List.length hk; simpa using this
  obtain ⟨f, hfj⟩ : ∃ f, (fieldsOf P e)[j]? = some f := ⟨_, Array.getElem?_eq_getElem (by omega)⟩
  obtain ⟨ho, h1⟩ := hone_of hone j f hfj
  have hu : P.underlying f.type = some (.int k) := by
    have := congrArg (fun l => l[j]?) hk
    simp only [List.getElem?_map, Array.getElem?_toList, hfj, hj, Option.map_some] at this
    exact Option.some.inj this
  have hv := hf j f hfj
  rw [ho, h1, List.drop_eq_getElem_cons (by omega)] at hv
  simp only [List.take_succ_cons, List.take_zero] at hv
  have hys : ys[j]? = some (ys[j]'(by omega)) := List.getElem?_eq_getElem (by omega)
  rw [hys] at hv
  obtain ⟨z, hz, _, hwf⟩ := DataW.trod_int hu hv
  refine ⟨z, ?_, hwf⟩
  rw [hat j hjl, List.getElem?_eq_getElem (by omega)]
  exact congrArg some (List.cons.inj hz).1
end
end Go.Proofs.Ytmekakecdgblaaa
