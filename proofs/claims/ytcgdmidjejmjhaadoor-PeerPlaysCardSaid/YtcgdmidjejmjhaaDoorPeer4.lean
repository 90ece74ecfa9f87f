
/-
  Two ends; chapter 27's examples; a growing slice of slices of bytes, each a row of its own.
-/
import Derived.Test.YtcgdmidjejmjhaaDoorPeer3
namespace Go.Proofs.YtcgdmidjejmjhaaDoor
open Go.RowKit
set_option linter.unusedVariables false
set_option linter.unusedSimpArgs false

theorem take_seal (s : Pe) (fr : Int) (p : Pk) (hm : p.May) : takeX s fr (sealL s.key p) = if p.d = s.dir ∨ p.v ≠ s.viewer then (s, [], 2) else if s.inn < p.n then ({ s with inn := p.n, addr := if 0 ≤ fr then fr else s.addr }, p.b, 0) else (s, [], 14) := by
  unfold takeX
  rw [open_seal _ _ hm]
  simp
section
variable {w w' : World} {g gw g' gw' : Nat} {u u' v : Value} {s s' : Pe} {n : Nat} {xs : List Value}
abbrev two (g gw : Nat) : Nat → Prop := fun k => k = g ∨ k = gw
theorem PeerR.typed (h : PeerR w g gw u s) : ∀ k, two g gw k → ∃ t cs, Blk w k t cs ∧ 5 ≠ t := fun k hk => by
  rcases hk with rfl | rfl
  · exact ⟨_, _, h.blk, by decide⟩
  · exact ⟨_, _, h.win, by decide⟩
theorem PeerR.own (h : PeerR w g gw u s) (ho : Own w 5 1 v n xs) (hc : Chg w w' (two g gw)) : Own w' 5 1 v n xs := ho.apart hc h.typed
theorem PeerR.other (h : PeerR w g gw u s) (h' : PeerR w g' gw' u' s') (hc : Chg w w' (two g gw)) (hg : g ≠ g') (hw : gw ≠ gw') : PeerR w' g' gw' u' s' := by
  have n1 : g' ≠ gw := fun e => by have h1 := h'.blk; rw [e] at h1; have h2 := (h1.inj h.win).1; revert h2; decide
  have n2 : gw' ≠ g := fun e => by have h1 := h'.win; rw [e] at h1; have h2 := (h1.inj h.blk).1; revert h2; decide
  exact ⟨h'.blk.kept hc (fun e => e.elim (fun e => hg e.symm) n1), h'.win.kept hc (fun e => e.elim n2 (fun e => hw e.symm)), h.own h'.key hc⟩
theorem Chg.one (hc : Chg w w' (fun k => k = g)) : Chg w w' (two g gw) := hc.mono (fun _ _ h => .inl h)
/-- The blocks of an object that is new since w may change. -/
theorem Chg.news {w0 : World} (h : Chg w0 w nob) (hc : Chg w w' (two g gw)) (h1 : w0.heap.size ≤ g) (h2 : w0.heap.size ≤ gw) : Chg w0 w' nob :=
  h.trans hc (fun i hi hk => by rcases hk with e | e <;> (subst e; omega))
end
theorem u_parts' : Tryd.prog.underlying 34 = some (.slice 22) := by kernel_rfl
/-- v is a growing slice of slices of bytes, each a row of its own. -/
def Pt (w wr : World) (v : Value) (P : List (List Int)) : Prop :=
  ∃ vs : List Value, vs.length = P.length ∧ Nw w wr 22 v vs ∧ ∀ (i : Nat) (u : Value) (l : List Int), vs[i]? = some u → P[i]? = some l → Own wr 5 1 u l.length (bytesV l) ∧ ∀ x ∈ l, 0 ≤ x ∧ x ≤ 255
theorem Pt.nil (w : World) : Pt w w (.slice none 0 0) [] := ⟨[], rfl, Nw.nil w _, fun i u l h _ => by simp at h⟩
section
variable {w wr w1 : World} {v : Value} {P : List (List Int)}
theorem Pt.kept (h : Pt w wr v P) (hc : Chg wr w1 nob) : Pt w w1 v P := by
  obtain ⟨vs, h1, h2, h3⟩ := h
  exact ⟨vs, h1, h2.kept hc, fun i u l hu hl => ⟨(h3 i u l hu hl).1.kept hc (fun _ _ => id), (h3 i u l hu hl).2⟩⟩
theorem Pt.apart {F : Nat → Prop} (h : Pt w wr v P) (hc : Chg wr w1 F) (hF : ∀ k, F k → w.heap.size ≤ k ∧ ∃ t cs, Blk wr k t cs ∧ 5 ≠ t ∧ 22 ≠ t) : Pt w w1 v P := by
  obtain ⟨vs, h1, h2, h3⟩ := h
  refine ⟨vs, h1, ⟨h2.1.kept hc (fun k hk hf => ?_), h2.2.1.trans hc (fun i hi hf => ?_), h2.2.2⟩, fun i u l hu hl => ⟨(h3 i u l hu hl).1.apart hc (fun k hk => ?_), (h3 i u l hu hl).2⟩⟩
  · obtain ⟨_, t, cs, hb, _, hne⟩ := hF k hf
    exact h2.1.ne hb hne hk
  · have := (hF i hf).1
    omega
  · obtain ⟨_, t, cs, hb, hne, _⟩ := hF k hk
    exact ⟨t, cs, hb, hne⟩
theorem Pt.form (h : Pt w wr v P) : ∃ a c, v = .slice a P.length c ∧ P.length ≤ c := by
  obtain ⟨vs, h1, h2, h3⟩ := h
  obtain ⟨a, c, e, h4, _⟩ := h2.form
  rw [h1] at e h4
  exact ⟨a, c, e, h4⟩
theorem Pt.chg (h : Pt w wr v P) : Chg w wr nob := by
  obtain ⟨vs, h1, h2, h3⟩ := h
  exact h2.2.1
theorem Pt.at (h : Pt w wr v P) {i : Nat} (hi : i < P.length) : ∃ g c u, v = .slice (some ⟨g, 0, none⟩) P.length c ∧ P.length ≤ c ∧ wr.cell? ⟨g, i, none⟩ = some u ∧ By wr u (P.getD i []) := by
  obtain ⟨vs, h1, h2, h3⟩ := h
  obtain ⟨a, c, rfl, h4, h5⟩ := h2.form
  obtain ⟨g, e, hc⟩ := h2.1.at (j := i) (by omega)
  rw [List.getElem?_eq_getElem (by omega)] at hc
  have hb := h3 i vs[i] (P.getD i []) (List.getElem?_eq_getElem (by omega)) (by simp [List.getD, hi])
  subst e
  exact ⟨g, c, _, by rw [h1], by omega, hc, ⟨hb.1.rd, hb.1.nilOk, hb.2⟩⟩
/-- One more. -/
theorem wp_pt {o : Oper} {a : Act} {K : Act → World → Prop} {Q : Exit → Act → World → Prop} {t' : TypeId} (s x : Operand)
    (ho : o.op = .call { callee := .builtin .append, args := #[s, x], argTypes := #[34, 34] })
    (hP : Pt w wr v P) (u : Value) (l : List Int) (hu : Own wr 5 1 u l.length (bytesV l)) (hb : ∀ x ∈ l, 0 ≤ x ∧ x ≤ 255) (hl : P.length ≤ 1000000) (hs : a.eval s = v) (hx : a.eval x = .slice (some ⟨wr.heap.size, 0, none⟩) 1 1)
    (h : ∀ v' w', Pt w w' v' (P ++ [l]) → Chg wr w' (blkOf v) → (∀ k, blkOf v' k → blkOf v k ∨ wr.heap.size ≤ k) → (∀ k, blkOf v k → ∃ cs, Blk wr k 22 cs) → K (a.put o.dst v') w') : o.wp Tryd.prog a (wr.alloc (.cells #[u] t')) K Q := by
  have hP' := hP
  obtain ⟨vs, h1, h2, h3⟩ := hP'
  obtain ⟨au, cu, rfl, _⟩ := hu.form
  have hrow : ∀ k, blkOf v k → ∃ cs, Blk wr k 22 cs := fun k hk => h2.1.row hk
  refine wp_push s x 34 ho 22 (.slice none 0 0) 1 24 i_part u_parts rfl (by decide) v vs.length vs hs h2.1 1 1 hx rfl rfl (by unfold maxLen; omega) (by omega) ?_
  intro v' w' ho' hc' hf'
  have keep : ∀ {u : Value} {n : Nat} {xs : List Value}, Own wr 5 1 u n xs → Own w' 5 1 u n xs := fun hu => hu.apart hc' (fun k hk => by
    obtain ⟨cs, hb⟩ := hrow k hk
    exact ⟨_, cs, hb, by decide⟩)
  refine h v' w' ⟨vs ++ [.slice au l.length cu], by simp [h1], h2.app (us := [.slice au l.length cu]) ho' hc' hf' (by simp), fun i u' l' hu' hl' => ?_⟩ hc' hf' hrow
  by_cases hi : i < P.length
  · rw [List.getElem?_append_left (by omega)] at hu'
    rw [List.getElem?_append_left hi] at hl'
    exact ⟨keep (h3 i u' l' hu' hl').1, (h3 i u' l' hu' hl').2⟩
  · have hil : i = P.length := by
      have := (List.getElem?_eq_some_iff.1 hl').1
      simp at this
      omega
    subst hil
    rw [List.getElem?_append_right (by omega), h1] at hu'
    rw [List.getElem?_append_right (by omega)] at hl'
    simp at hu' hl'
    subst hu' hl'
    exact ⟨keep hu, hb⟩
theorem wpList_pt {ops : Array Oper} {rest : List Oper} {o : Oper} {a : Act} {Q : Exit → Act → World → Prop} {t' : TypeId} (hgd : o.guard = none) (s x : Operand)
    (ho : o.op = .call { callee := .builtin .append, args := #[s, x], argTypes := #[34, 34] })
    (hP : Pt w wr v P) (u : Value) (l : List Int) (hu : Own wr 5 1 u l.length (bytesV l)) (hb : ∀ x ∈ l, 0 ≤ x ∧ x ≤ 255) (hl : P.length ≤ 1000000) (hs : a.eval s = v) (hx : a.eval x = .slice (some ⟨wr.heap.size, 0, none⟩) 1 1)
    (h : ∀ v' w', Pt w w' v' (P ++ [l]) → Chg wr w' (blkOf v) → (∀ k, blkOf v' k → blkOf v k ∨ wr.heap.size ≤ k) → (∀ k, blkOf v k → ∃ cs, Blk wr k 22 cs) → wpList Tryd.prog ops Q rest (a.put o.dst v') w') : wpList Tryd.prog ops Q (o :: rest) a (wr.alloc (.cells #[u] t')) :=
  wpList_plain hgd fun _ hK => wp_pt s x ho hP u l hu hb hl hs hx fun v' w' h1 h2 h3 h4 => hK _ _ (h v' w' h1 h2 h3 h4)
end
/-- A change in rows of another type leaves an end as it is. -/
theorem PeerR.rows {w w' : World} {g gw : Nat} {u : Value} {s : Pe} {F : Nat → Prop} (h : PeerR w g gw u s) (hc : Chg w w' F) (hF : ∀ k, F k → ∃ cs, Blk w k 22 cs) : PeerR w' g gw u s := by
  refine ⟨h.blk.kept hc fun hf => ?_, h.win.kept hc fun hf => ?_, h.key.apart hc fun k hk => ?_⟩
  · obtain ⟨cs, hb⟩ := hF g hf
    have h2 := (h.blk.inj hb).1
    revert h2
    decide
  · obtain ⟨cs, hb⟩ := hF gw hf
    have h2 := (h.win.inj hb).1
    revert h2
    decide
  · obtain ⟨cs, hb⟩ := hF k hk
    exact ⟨_, cs, hb, by decide⟩
theorem RPeerR.rows {w w' : World} {g : Nat} {u : Value} {s : Pe} {F : Nat → Prop} (h : RPeerR w g u s) (hc : Chg w w' F) (hF : ∀ k, F k → ∃ cs, Blk w k 22 cs) : RPeerR w' g u s := by
  refine ⟨h.blk.kept hc fun hf => ?_, h.key.apart hc fun k hk => ?_⟩
  · obtain ⟨cs, hb⟩ := hF g hf
    have h2 := (h.blk.inj hb).1
    revert h2
    decide
  · obtain ⟨cs, hb⟩ := hF k hk
    exact ⟨_, cs, hb, by decide⟩
end Go.Proofs.YtcgdmidjejmjhaaDoor
