
/-
  Bytes of the call's own: bytes, or a string's, put behind them.
-/
import Derived.Test.YtmekakecdgblaaaBytes
import Derived.Lib.AppendStr
namespace Go.Proofs.Ytmekakecdgblaaa
open Go.RowKit
set_option linter.unusedVariables false
set_option linter.unusedSimpArgs false

/-- A string's bytes as numbers. -/
def numsS (s : ByteArray) : List Int := s.data.toList.map (fun b => (b.toNat : Int))
theorem numsS_byte (s : ByteArray) : ∀ x ∈ numsS s, 0 ≤ x ∧ x ≤ 255 := fun x hx => by
  obtain ⟨b, _, rfl⟩ := List.mem_map.1 hx
  have := b.toNat_lt
  omega
theorem str_numsS (s : ByteArray) : strOfNums (numsS s) = s := by
  apply ByteArray.ext
  apply Array.toList_inj.1
  rw [strOfNums_data, numsS, List.map_map]
  conv => rhs; rw [← List.map_id s.data.toList]
  exact List.map_congr_left (fun b _ => by (show UInt8.ofNat ((b.toNat : Int)).toNat = b); rw [Int.toNat_natCast]; exact UInt8.ofNat_toNat)
theorem numsS_len (s : ByteArray) : (numsS s).length = s.size := by rw [numsS, List.length_map, Array.length_toList]; rfl
theorem cells_numsS (s : ByteArray) : Lib.strCells s = bytesV (numsS s) := by rw [Lib.strCells, bytesV, numsS, List.map_map]; rfl

section
variable {o : Oper} {a : Act} {K : Act → World → Prop} {Q : Exit → Act → World → Prop} {w0 w : World}
theorem wp_bx (s x : Operand) (ho : o.op = .call { callee := .builtin .append, args := #[s, x], argTypes := #[23, 23] })
    (v : Value) (L : List Int) (hs : a.eval s = v) (hB : Bx w0 w v L) (u : Value) (M : List Int) (hx : a.eval x = u) (hM : Own w 5 1 u M.length (bytesV M)) (hl : L.length + M.length ≤ 140737488355328)
    (h : ∀ v' w', Bx w0 w' v' (L ++ M) → Chg w w' (blkOf v) → K (a.put o.dst v') w') : o.wp Try.prog a w K Q := by
  obtain ⟨ao, co, rfl, _⟩ := hB.1.form
  obtain ⟨av, cv, rfl, _, _, hvn, _⟩ := hM.form
  have hrd := hM.rd
  refine wp_app s x 23 ho 5 (.int .u8 0) 1 1 i_byte u_bytes rfl (by decide) (.slice ao L.length co) L.length _ hs hB.1 av M.length cv (bytesV M) hx hvn (by simp [bytesV]) ?_ (bytes_one M) (by unfold maxLen; omega) (by omega) ?_
  · intro b hb j u' hu
    obtain ⟨b', o', h1, h2⟩ := hrd.cell hu
    rw [hb] at h1
    cases h1
    rw [Addr.add_lit]; exact h2
  · intro v' w' ho' hc' hf'
    exact h v' w' (hB.pushs (ys := M) ho' hc' hf' rfl (by simp)) hc'
theorem wpList_bx {ops : Array Oper} {rest : List Oper} (hgd : o.guard = none) (s x : Operand) (ho : o.op = .call { callee := .builtin .append, args := #[s, x], argTypes := #[23, 23] })
    (v : Value) (L : List Int) (hs : a.eval s = v) (hB : Bx w0 w v L) (u : Value) (M : List Int) (hx : a.eval x = u) (hM : Own w 5 1 u M.length (bytesV M)) (hl : L.length + M.length ≤ 140737488355328)
    (h : ∀ v' w', Bx w0 w' v' (L ++ M) → Chg w w' (blkOf v) → wpList Try.prog ops Q rest (a.put o.dst v') w') : wpList Try.prog ops Q (o :: rest) a w :=
  wpList_plain hgd fun _ hK => wp_bx s x ho v L hs hB u M hx hM hl fun v' w' h1 h2 => hK _ _ (h v' w' h1 h2)
/-- A string's bytes put behind. -/
theorem wp_bxs (s x : Operand) (ho : o.op = .call { callee := .builtin .append, args := #[s, x], argTypes := #[23, 9] })
    (v : Value) (L : List Int) (hs : a.eval s = v) (hB : Bx w0 w v L) (t : ByteArray) (hx : a.eval x = .string t) (hl : L.length + t.size ≤ 140737488355328)
    (h : ∀ v' w', Bx w0 w' v' (L ++ numsS t) → Chg w w' (blkOf v) → K (a.put o.dst v') w') : o.wp Try.prog a w K Q := by
  obtain ⟨i, hi, hz, hsize, hby⟩ := info_parts i_byte
  have hown : w.ownsRow w0.heap.size 5 1 v L.length (bytesV L) := by
    refine ⟨hB.1.1, ?_⟩
    rcases hB.1.2 with h1 | ⟨g, cap, cur, hv, _, r⟩
    · exact .inl h1
    · exact .inr ⟨g, cap, cur, hv, hB.2.2 g (by rw [hv]; rfl), r⟩
  obtain ⟨v', w', hr, h2, h3, _⟩ := Lib.run_append_own_string (P := Try.prog) w w0.heap.size 23 9 o.type 5 i u_bytes (by kernel_rfl) hi hz hsize hby v L.length _ hown t (by unfold maxLen; omega) hl hB.2.1.size
  rw [cells_numsS] at h2
  unfold Oper.wp execOp
  simp only [ho, resolve, invoke, builtin, Sem.run_bind, Sem.run_pure, Result.andThen_ok, List.map_toArray, List.map_cons, List.map_nil, hs, hx, hr]
  have hc : Chg w w' (blkOf v) := (Chg.ofGrown h3).mono fun k _ h => h
  refine h v' w' ⟨⟨?_, ?_⟩, hB.2.1.trans hc (fun i hi hb => by have := hB.2.2 i hb; omega), fun k hk => ?_⟩ hc
  · simp [bytesV]
  · rcases h2.2 with ⟨h4, h5⟩ | ⟨g, cap, cur, hv, _, hh, r⟩
    · exact .inl ⟨h4, by rw [List.length_append, numsS_len]; exact h5⟩
    · refine .inr ⟨g, cap, cur, by rw [List.length_append, numsS_len]; exact hv, Nat.zero_le _, hh, ?_⟩
      rw [List.length_append, numsS_len]
      simpa [bytesV] using r
  · rcases h2.2 with ⟨rfl, _⟩ | ⟨g, cap, cur, rfl, hb, _⟩
    · cases hk
    · cases hk; exact hb
end
end Go.Proofs.Ytmekakecdgblaaa
