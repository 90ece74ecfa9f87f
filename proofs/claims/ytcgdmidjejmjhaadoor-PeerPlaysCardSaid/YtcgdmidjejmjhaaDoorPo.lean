
/-
  A slice of slices of bytes that grows.
-/
import Derived.Test.YtcgdmidjejmjhaaDoorA
import Derived.Test.YtcgdmidjejmjhaaDoorJoin
namespace Go.Proofs.YtcgdmidjejmjhaaDoor
open Go.RowKit
set_option linter.unusedVariables false
set_option linter.unusedSimpArgs false

theorem u_parts : Tryd.prog.underlying 34 = some (.slice 22) := by kernel_rfl
theorem i_part : (Tryd.prog.info? 22).map (fun i => (i.zero, i.size, i.bytes)) = some (some (.slice none 0 0), 1, 24) := by kernel_rfl
/-- v is a growing slice of slices of bytes, new since w. -/
def Po (w wr : World) (v : Value) (P : List (List Int)) : Prop :=
  ∃ vs : List Value, vs.length = P.length ∧ Nw w wr 22 v vs ∧ ∀ (i : Nat) (u : Value) (l : List Int), vs[i]? = some u → P[i]? = some l → By wr u l ∧ (l ≠ [] → ∀ k, blkOf u k → ¬ blkOf v k)
theorem Po.nil (w : World) : Po w w (.slice none 0 0) [] := ⟨[], rfl, Nw.nil w _, fun i u l h _ => by simp at h⟩
section
variable {w wr w1 : World} {v : Value} {P : List (List Int)}
theorem Po.kept (h : Po w wr v P) (hc : Chg wr w1 nob) : Po w w1 v P := by
  obtain ⟨vs, h1, h2, h3⟩ := h
  exact ⟨vs, h1, h2.kept hc, fun i u l hu hl => ⟨(h3 i u l hu hl).1.kept hc, (h3 i u l hu hl).2⟩⟩
theorem Po.chg (h : Po w wr v P) : Chg w wr nob := by
  obtain ⟨vs, h1, h2, h3⟩ := h
  exact h2.2.1
theorem Po.new (h : Po w wr v P) : ∀ k, blkOf v k → w.heap.size ≤ k := by
  obtain ⟨vs, h1, h2, h3⟩ := h
  exact h2.2.2
theorem Po.form (h : Po w wr v P) : ∃ a c, v = .slice a P.length c ∧ P.length ≤ c := by
  obtain ⟨vs, h1, h2, h3⟩ := h
  obtain ⟨a, c, e, h4, _⟩ := h2.form
  rw [h1] at e h4
  exact ⟨a, c, e, h4⟩
theorem Po.ps (h : Po w wr v P) (hP : 1 ≤ P.length) : Ps wr v P := by
  obtain ⟨vs, h1, h2, h3⟩ := h
  obtain ⟨a, c, rfl, h4, h5⟩ := h2.form
  have hr := h2.1.rd
  obtain ⟨u0, hu0⟩ : ∃ u, vs[0]? = some u := ⟨_, List.getElem?_eq_getElem (by omega)⟩
  obtain ⟨b, o, rfl, _⟩ := hr.cell hu0
  refine ⟨vs, c, b, o, by rw [h1], by omega, h1, fun i u hu => ?_, fun i u l hu hl => ⟨(h3 i u l hu hl).1.rd, (h3 i u l hu hl).1.nil, (h3 i u l hu hl).1.byte⟩⟩
  obtain ⟨b', o', e, hc⟩ := hr.cell hu
  cases e
  exact hc
/-- The element at a place. -/
theorem Po.at (h : Po w wr v P) {i : Nat} (hi : i < P.length) : ∃ g c u, v = .slice (some ⟨g, 0, none⟩) P.length c ∧ P.length ≤ c ∧ wr.cell? ⟨g, i, none⟩ = some u ∧ By wr u (P.getD i []) := by
  obtain ⟨vs, h1, h2, h3⟩ := h
  obtain ⟨a, c, rfl, h4, h5⟩ := h2.form
  obtain ⟨g, e, hc⟩ := h2.1.at (j := i) (by omega)
  rw [List.getElem?_eq_getElem (by omega)] at hc
  have hb := (h3 i vs[i] (P.getD i []) (List.getElem?_eq_getElem (by omega)) (by simp [List.getD, hi])).1
  subst e
  exact ⟨g, c, _, by rw [h1], by omega, hc, hb⟩
/-- One more. -/
theorem po_more {wr w' : World} {v' u : Value} {l : List Int} {vs : List Value} (h1 : vs.length = P.length) (h2 : Nw w wr 22 v vs) (h3 : ∀ (i : Nat) (u : Value) (l : List Int), vs[i]? = some u → P[i]? = some l → By wr u l ∧ (l ≠ [] → ∀ k, blkOf u k → ¬ blkOf v k))
    (hu : By wr u l) (hd : l ≠ [] → ∀ k, blkOf u k → ¬ blkOf v k)
    (hc' : Chg wr w' (blkOf v)) (hf' : ∀ k, blkOf v' k → blkOf v k ∨ wr.heap.size ≤ k) (ho' : Own w' 22 1 v' (vs.length + 1) (vs ++ [u])) : Po w w' v' (P ++ [l]) := by
  refine ⟨vs ++ [u], by simp [h1], h2.app (us := [u]) ho' hc' hf' (by simp), fun i u' l' hu' hl' => ?_⟩
  have key : ∀ u' l', By wr u' l' → (l' ≠ [] → ∀ k, blkOf u' k → ¬ blkOf v k) → By w' u' l' ∧ (l' ≠ [] → ∀ k, blkOf u' k → ¬ blkOf v' k) := fun u' l' hb hd => ⟨hb.keptN hc' hd, fun hne k hk hk' => by
    rcases hf' k hk' with h | h
    · exact hd hne k hk h
    · have := hb.lt hne hk; omega⟩
  by_cases hi : i < P.length
  · rw [List.getElem?_append_left (by omega)] at hu'
    rw [List.getElem?_append_left hi] at hl'
    exact key _ _ (h3 i u' l' hu' hl').1 (h3 i u' l' hu' hl').2
  · have hil : i = P.length := by
      have := (List.getElem?_eq_some_iff.1 hl').1
      simp at this
      omega
    subst hil
    rw [List.getElem?_append_right (by omega), h1] at hu'
    rw [List.getElem?_append_right (by omega)] at hl'
    simp at hu' hl'
    subst hu' hl'
    exact key _ _ hu hd
theorem wp_po {o : Oper} {a : Act} {K : Act → World → Prop} {Q : Exit → Act → World → Prop} {t' : TypeId} (s x : Operand)
    (ho : o.op = .call { callee := .builtin .append, args := #[s, x], argTypes := #[34, 34] })
    (hs : a.eval s = v) (hP : Po w wr v P) (u : Value) (l : List Int) (hx : a.eval x = .slice (some ⟨wr.heap.size, 0, none⟩) 1 1) (hu : By wr u l) (hd : l ≠ [] → ∀ k, blkOf u k → ¬ blkOf v k) (hl : P.length ≤ 1000000)
    (h : ∀ v' w', Po w w' v' (P ++ [l]) → Chg wr w' (blkOf v) → (∀ k, blkOf v' k → blkOf v k ∨ wr.heap.size ≤ k) → K (a.put o.dst v') w') : o.wp Tryd.prog a (wr.alloc (.cells #[u] t')) K Q := by
  have hP' := hP
  obtain ⟨vs, h1, h2, h3⟩ := hP'
  obtain ⟨au, cu, rfl, _⟩ := hu.form
  refine wp_push s x 34 ho 22 (.slice none 0 0) 1 24 i_part u_parts rfl (by decide) v vs.length vs hs h2.1 1 1 hx rfl rfl (by unfold maxLen; omega) (by omega) ?_
  intro v' w' ho' hc' hf'
  exact h v' w' (po_more h1 h2 h3 hu hd hc' hf' ho') hc' hf'
theorem step_po {ops : Array Oper} {E : Prop} {o : Oper} {a : Act} {K : Act → World → Prop} {Q : Exit → Act → World → Prop} {t' : TypeId} (hgd : o.guard = none) (s x : Operand)
    (ho : o.op = .call { callee := .builtin .append, args := #[s, x], argTypes := #[34, 34] })
    (hs : a.eval s = v) (hP : Po w wr v P) (u : Value) (l : List Int) (hx : a.eval x = .slice (some ⟨wr.heap.size, 0, none⟩) 1 1) (hu : By wr u l) (hd : l ≠ [] → ∀ k, blkOf u k → ¬ blkOf v k) (hl : P.length ≤ 1000000)
    (h : ∀ v' w', Po w w' v' (P ++ [l]) → Chg wr w' (blkOf v) → (∀ k, blkOf v' k → blkOf v k ∨ wr.heap.size ≤ k) → K (a.put o.dst v') w') : if Region.wanted o (yielded ops a.tmps) = true then Oper.wp Tryd.prog o a (wr.alloc (.cells #[u] t')) K Q else E := by
  rw [if_pos (show Region.wanted o (yielded ops a.tmps) = true by simp [Region.wanted, hgd])]
  exact wp_po s x ho hs hP u l hx hu hd hl h
theorem wpList_po {ops : Array Oper} {rest : List Oper} {o : Oper} {a : Act} {Q : Exit → Act → World → Prop} {t' : TypeId} (hgd : o.guard = none) (s x : Operand)
    (ho : o.op = .call { callee := .builtin .append, args := #[s, x], argTypes := #[34, 34] })
    (hs : a.eval s = v) (hP : Po w wr v P) (u : Value) (l : List Int) (hx : a.eval x = .slice (some ⟨wr.heap.size, 0, none⟩) 1 1) (hu : By wr u l) (hd : l ≠ [] → ∀ k, blkOf u k → ¬ blkOf v k) (hl : P.length ≤ 1000000)
    (h : ∀ v' w', Po w w' v' (P ++ [l]) → Chg wr w' (blkOf v) → (∀ k, blkOf v' k → blkOf v k ∨ wr.heap.size ≤ k) → wpList Tryd.prog ops Q rest (a.put o.dst v') w') : wpList Tryd.prog ops Q (o :: rest) a (wr.alloc (.cells #[u] t')) :=
  wpList_plain hgd fun _ hK => wp_po s x ho hs hP u l hx hu hd hl fun v' w' h1 h2 h3 => hK _ _ (h v' w' h1 h2 h3)
end
end Go.Proofs.YtcgdmidjejmjhaaDoor
