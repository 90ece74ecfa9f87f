
/-
  copy onto a row of one's own, elements of whatever size.
-/
import Derived.Test.YtmekakecdgblaaaK
import Derived.Laws.CopyRow
import Derived.Laws.MakeOwn
namespace Go.Proofs.Ytmekakecdgblaaa
open Go.RowKit
set_option linter.unusedVariables false
set_option linter.unusedSimpArgs false

theorem Blk.drew {w : World} {b : Nat} {t : TypeId} {cs : Array Value} (h : Blk w b t cs) : Blk w.drew b t cs := h
theorem Blk.setAll {b : Nat} {t : TypeId} : ∀ (vs : List Value) (o : Nat) {w : World} {cs : Array Value}, Blk w b t cs → Blk (w.setCells b o vs) b t (putL cs.toList o vs).toArray
  | [], _, _, cs, h => by rw [putL, Array.toArray_toList]; exact h
  | v :: r, o, w, cs, h => by
    have := Blk.setAll r (o + 1) (h.set o v)
    rw [Array.toList_setIfInBounds] at this
    exact this
/-- A block laid anew as a whole. -/
theorem Blk.laid {b : Nat} {t : TypeId} {w : World} {cs : Array Value} (vs : List Value) (h : Blk w b t cs) (hl : vs.length = cs.size) : Blk (w.setCells b 0 vs) b t vs.toArray := by
  have := Blk.setAll vs 0 h
  rw [putL_eq _ _ _ (by simp [hl]), Nat.zero_add, hl, ← Array.length_toList, List.drop_length, List.take_zero, List.nil_append, List.append_nil] at this
  exact this
section
variable {P : Program}
theorem Chg.cells (w : World) (b : Nat) (vs : List Value) (o : Nat) : Chg w (w.setCells b o vs) (fun k => k = b) := Chg.setCells (F := fun k => k = b) (.inl rfl) vs o (Chg.refl w _)
theorem run_copy_sz (w : World) (dT sT ty elem : TypeId) (g o dLen dCap : Nat) (a : Addr) (sLen sCap : Nat) (cur : Array Value) (t : TypeId) (cs : List Value) (size n : Nat)
    (hu : P.underlying dT = some (.slice elem)) (hs : (P.info? elem).map (·.size) = some size)
    (hg : w.heap[g]? = some (.cells cur t (0, 0))) (hn : n = Nat.min sLen dLen) (hl : cs.length = n * size)
    (hsrc : ∀ j v, cs[j]? = some v → w.cell? (a.add j) = some v) (hfit : o + cs.length ≤ cur.size) (h1 : ∀ v ∈ cs, v.oneCell' = true) :
    (Builtin.copy_ #[dT, sT] ty #[.slice (some ⟨g, o, none⟩) dLen dCap, .slice (some a) sLen sCap]).run P w =
      .ok (goInt n) (w.setRow g (cur.toList.take o ++ cs ++ cur.toList.drop (o + cs.length)).toArray) := by
  have hll := run_loadCells_list (P := P) w a cs hsrc
  have hst := run_storeCells_at P g o t cs 0 cur w hg (by simpa using hfit) h1
  cases hq : P.info? elem with
  | none => simp [hq] at hs
  | some i =>
    have hi : i.size = size := by simpa [hq] using hs
    subst hn
    simp [Builtin.copy_, run_underlying hu, Builtin.lenOf, Builtin.firstCells, sizeOf, typeInfo, hq, hi, ← hl, hll, hst]
/-- A row whose cells from o on are laid anew. -/
def over (cur : List Value) (o : Nat) (cs : List Value) : List Value := cur.take o ++ cs ++ cur.drop (o + cs.length)
theorem over_len {cur cs : List Value} {o : Nat} (h : o + cs.length ≤ cur.length) : (over cur o cs).length = cur.length := by simp [over]; omega
theorem Blk.over {w : World} {g : Nat} {t : TypeId} {cur : Array Value} (h : Blk w g t cur) (o : Nat) (cs : List Value) : Blk (w.setRow g (over cur.toList o cs).toArray) g t (over cur.toList o cs).toArray := setRow_heap w g cur _ t _ h
theorem Chg.row (w : World) (g : Nat) (cs : Array Value) : Chg w (w.setRow g cs) (fun k => k = g) :=
  ⟨rfl, rfl, rfl, by simp [World.setRow], fun k _ hk => setRow_other w g k _ hk⟩
theorem wp_copy {o : Oper} {a : Act} {K : Act → World → Prop} {Q : Exit → Act → World → Prop} {w : World} (d s : Operand) (dT sT : TypeId)
    (ho : o.op = .call { callee := .builtin .copy, args := #[d, s], argTypes := #[dT, sT] }) (elem : TypeId) (size : Nat) (hu : P.underlying dT = some (.slice elem)) (hsz : (P.info? elem).map (·.size) = some size)
    (g off dLen dCap : Nat) (ad : Addr) (sLen sCap : Nat) (hd : a.eval d = .slice (some ⟨g, off, none⟩) dLen dCap) (hs : a.eval s = .slice (some ad) sLen sCap)
    (cur : Array Value) (t : TypeId) (hg : Blk w g t cur) (cs : List Value) (n : Nat) (hn : n = Nat.min sLen dLen) (hl : cs.length = n * size)
    (hsrc : ∀ j v, cs[j]? = some v → w.cell? (ad.add j) = some v) (hfit : off + cs.length ≤ cur.size) (h1 : ∀ v ∈ cs, v.oneCell' = true)
    (h : ∀ w', Blk w' g t (over cur.toList off cs).toArray → Chg w w' (fun k => k = g) → K (a.put o.dst (goInt n)) w') : o.wp P a w K Q := by
  have hrun := run_copy_sz (P := P) w dT sT o.type elem g off dLen dCap ad sLen sCap cur t cs size n hu hsz hg hn hl hsrc hfit h1
  unfold Oper.wp
  simp only [execOp, ho, resolve, invoke, builtin, Sem.run_bind, Sem.run_pure, Result.andThen_ok, List.map_toArray, List.map_cons, List.map_nil, hd, hs, hrun]
  exact h _ (hg.over off cs) (Chg.row w g _)
theorem wpList_copy {ops : Array Oper} {rest : List Oper} {o : Oper} {a : Act} {Q : Exit → Act → World → Prop} {w : World} (hgd : o.guard = none) (d s : Operand) (dT sT : TypeId)
    (ho : o.op = .call { callee := .builtin .copy, args := #[d, s], argTypes := #[dT, sT] }) (elem : TypeId) (size : Nat) (hu : P.underlying dT = some (.slice elem)) (hsz : (P.info? elem).map (·.size) = some size)
    (g off dLen dCap : Nat) (ad : Addr) (sLen sCap : Nat) (hd : a.eval d = .slice (some ⟨g, off, none⟩) dLen dCap) (hs : a.eval s = .slice (some ad) sLen sCap)
    (cur : Array Value) (t : TypeId) (hg : Blk w g t cur) (cs : List Value) (n : Nat) (hn : n = Nat.min sLen dLen) (hl : cs.length = n * size)
    (hsrc : ∀ j v, cs[j]? = some v → w.cell? (ad.add j) = some v) (hfit : off + cs.length ≤ cur.size) (h1 : ∀ v ∈ cs, v.oneCell' = true)
    (h : ∀ w', Blk w' g t (over cur.toList off cs).toArray → Chg w w' (fun k => k = g) → wpList P ops Q rest (a.put o.dst (goInt n)) w') : wpList P ops Q (o :: rest) a w :=
  wpList_plain hgd fun _ hK => wp_copy d s dT sT ho elem size hu hsz g off dLen dCap ad sLen sCap hd hs cur t hg cs n hn hl hsrc hfit h1 fun w' h2 h3 => hK _ _ (h w' h2 h3)
end
end Go.Proofs.Ytmekakecdgblaaa
