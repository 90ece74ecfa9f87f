/-
  append(b, make([]byte, k)...) onto bytes of one's own.
-/
import Derived.Test.YtajcefdbljbmdaaDoorMac5
import Derived.Test.YtajcefdbljbmdaaDoorCopy
import Derived.Lib.AppendZerosOnto
namespace Go.Proofs.YtajcefdbljbmdaaDoor
open Go.RowKit
set_option linter.unusedVariables false
set_option linter.unusedSimpArgs false

theorem u_int : Tryd.prog.underlying 3 = some (.int .i64) := by kernel_rfl
theorem zc_byte (k : Nat) : (Builtin.zeroCells #[.int .u8 0] k).toList = bytesV (List.replicate k 0) := by
  apply List.ext_getElem?
  intro j
  by_cases h : j < k
  · rw [bytesV, List.getElem?_map, List.getElem?_replicate, if_pos h]
    have e : j % 1 = 0 := by omega
    simp [Builtin.zeroCells, h, Nat.mod_one]
  · rw [List.getElem?_eq_none (by simp [Builtin.zeroCells]; omega), List.getElem?_eq_none (by simp [bytesV]; omega)]
theorem run_bz (w : World) (ty : TypeId) (v : Value) (L : List Int) (k : Nat) (ho : Own w 5 1 v L.length (bytesV L)) (hk : k ≤ 1000) (hl : L.length ≤ 1000000) :
    ∃ v' w', (Builtin.append_ #[22, 3] ty #[v, .int .i64 k]).run Tryd.prog w = .ok v' w' ∧ Own w' 5 1 v' (L.length + k) (bytesV L ++ bytesV (List.replicate k 0)) ∧ Chg w w' (blkOf v) ∧ ∀ b, blkOf v' b → blkOf v b ∨ w.heap.size ≤ b := by
  obtain ⟨i, hi, hz, hsize, hby⟩ := info_parts i_byte
  have hwk : IntKind.i64.wrap (k : Int) = k := by rw [IntKind.wrap_i64]; omega
  have hneg : ¬ ((k : Int) < 0) := by omega
  have h48i : ¬ (281474976710656 < (k : Int) * (i.bytes : Int)) := by rw [hby]; omega
  have grow : ∀ (base : Option Addr) (n cap : Nat), n = L.length → v = .slice base n cap → cap < n + k → (Builtin.firstCells i.size n (.slice base n cap)).run Tryd.prog w.drew = .ok (bytesV L).toArray w.drew → ∃ v' w', (Builtin.append_ #[22, 3] ty #[v, .int .i64 k]).run Tryd.prog w = .ok v' w' ∧ Own w' 5 1 v' (L.length + k) (bytesV L ++ bytesV (List.replicate k 0)) ∧ Chg w w' (blkOf v) ∧ ∀ b, blkOf v' b → blkOf v b ∨ w.heap.size ≤ b := by
    rintro base n cap rfl rfl hg hf
    have hc0 : L.length ≤ cap ∨ cap < L.length := by omega
    have hr := Lib.run_append_grow_zeros (P := Tryd.prog) w 22 3 ty 5 i (.int .u8 0) .i64 .i64 u_bytes u_int hi hz base L.length cap (bytesV L) hf k (by have := ho.form; obtain ⟨_, _, e, h1, _⟩ := this; cases e; omega) (by omega) hg (by omega) (by rw [hby]; omega) (growslice_fits hg (by rw [hby]; omega))
    refine ⟨_, _, hr, ?_, ?_, ?_⟩
    · refine ⟨by simp [bytesV], .inr ⟨w.heap.size, _, _, rfl, Nat.zero_le _, heap_alloc_new w.drew _, grownCap_ge _ _ _ _, grownCap_le_maxLen _ _ _ _ (by unfold maxLen; omega), ?_, ?_⟩⟩
      · have := grownCap_ge w (L.length + k) cap 5
        simp [size_zeroCells, Value.cells, bytesV]
        omega
      · rw [Nat.mul_one, Array.toList_append, Array.toList_append, show (Value.int .u8 0).cells = #[.int .u8 0] from rfl, zc_byte, zc_byte]
        exact List.take_left' (by simp [bytesV])
    · exact ((Chg.refl w _).drew).alloc _
    · intro b hb
      cases hb
      exact .inr (Nat.le_refl _)
  rcases ho.2 with ⟨rfl, h0⟩ | ⟨g, cap, cur, rfl, hbg, hg, hnc, hcm, hcs, htake⟩
  · obtain rfl : L = [] := List.length_eq_zero_iff.1 h0
    cases k with
    | zero =>
      refine ⟨.slice none 0 0, w, ?_, by simpa [bytesV] using ho, Chg.refl _ _, fun b hb => .inl hb⟩
      simp [Builtin.append_, run_underlying u_bytes, run_underlying u_int, sizeOf, typeInfo, hi, asInt, asIntOf, IntKind.wrap_i64]
    | succ k => exact grow none 0 0 rfl rfl (by omega) (run_firstCells_none _ _ _ _ _)
  · by_cases hroom : L.length + k ≤ cap
    · have hst := run_storeCells_at Tryd.prog g (L.length * i.size) 5 (bytesV (List.replicate k 0)) 0 cur w hg (by rw [hsize, hcs]; simp [bytesV]; omega) (bytes_one _)
      simp only [Nat.add_zero] at hst
      obtain ⟨NC, hNC⟩ : ∃ NC, (cur.toList.take (L.length * i.size) ++ bytesV (List.replicate k 0) ++ cur.toList.drop (L.length * i.size + (bytesV (List.replicate k 0)).length)).toArray = NC := ⟨_, rfl⟩
      rw [hNC] at hst
      have s1 : NC.size = cap * 1 := by
        rw [← hNC]
        simp [hsize, hcs, bytesV]
        omega
      have s2 : NC.toList.take ((L.length + k) * 1) = bytesV L ++ bytesV (List.replicate k 0) := by
        rw [← hNC]
        simp only [hsize, Nat.mul_one] at htake ⊢
        rw [htake]
        exact List.take_left' (by simp [bytesV])
      clear hNC
      refine ⟨.slice (some ⟨g, 0, none⟩) (L.length + k) cap, w.setRow g NC, ?_, ⟨by simp [bytesV], .inr ⟨g, cap, NC, rfl, hbg, setRow_heap w g cur _ _ _ hg, hroom, hcm, s1, s2⟩⟩, (Chg.row w g NC).mono (fun i _ h => by rw [h]; rfl), fun b hb => .inl hb⟩
      · cases k with
        | zero =>
          simp only [List.replicate_zero, bytesV, List.map_nil] at hst ⊢
          have e : w = w.setRow g NC := by simpa [storeCells] using hst
          rw [← e]
          simp [Builtin.append_, run_underlying u_bytes, run_underlying u_int, sizeOf, typeInfo, hi, asInt, asIntOf, IntKind.wrap_i64, hnc, Addr.add_lit, storeCells]
        | succ k =>
          have hns : ¬ ((k + 1) * i.size = 0) := Nat.mul_ne_zero (by omega) (by omega)
          have hzc : (Builtin.zeroCells (Value.int .u8 0).cells (k + 1)).toList = bytesV (List.replicate (k + 1) 0) := zc_byte _
          have hwk' : IntKind.i64.wrap ((k : Int) + 1) = (k : Int) + 1 := by simpa using hwk
          have hneg' : ¬ ((k : Int) + 1 < 0) := by omega
          have h48' : ¬ (281474976710656 < ((k : Int) + 1) * (i.bytes : Int)) := by simpa using h48i
          simp [Builtin.append_, run_underlying u_bytes, run_underlying u_int, sizeOf, typeInfo, zeroValue, hi, hz, asInt, asIntOf, hwk', hneg', h48', hns, hroom, Addr.add_lit, hzc, hst]
    · exact grow (some ⟨g, 0, none⟩) L.length cap rfl rfl (by omega) (run_firstCells_some _ _ _ _ _ _ _ (by rw [hsize]; simp [bytesV]) (fun j u hu => by simpa using ho.rd.news _ rfl j u hu))
end Go.Proofs.YtajcefdbljbmdaaDoor
