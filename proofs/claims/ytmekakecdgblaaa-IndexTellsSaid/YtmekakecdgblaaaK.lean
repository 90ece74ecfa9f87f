
/-
  Words of the prover's own: what a call may change, blocks, owned rows.
-/
import Derived.Test.YtmekakecdgblaaaProg
import Derived.Below
import Derived.OneCell
import Derived.OwnWalk
import Derived.Laws.OwnMore
import Derived.Tactics
import Derived.WalkKit
import Derived.WalkLawsBesides
import Derived.WalkSpells
import Derived.KernelRfl
import Derived.LoopTactic
import Derived.Deep.QuietTactic
import Derived.BigQuiet
import Derived.StillTailTactics
import Derived.Deep.RegionHeld3
import Derived.Deep.RegionLaw
import Derived.Deep.Draws
import Derived.Lib.Hide
import Derived.Outline
import Derived.Carry
import Derived.ArgAppend
import Derived.Lib.SliceRun
namespace Go.Proofs.Ytmekakecdgblaaa
open Go.RowKit

/-- From w to w': of the blocks that were there only those in F may have changed. -/
structure Chg (w w' : World) (F : Nat → Prop) : Prop where
  os : w'.os = w.os
  tape : w'.tape = w.tape
  output : w'.output = w.output
  size : w.heap.size ≤ w'.heap.size
  block : ∀ k, k < w.heap.size → ¬ F k → w'.heap[k]? = w.heap[k]?

abbrev nob : Nat → Prop := fun _ => False

theorem Chg.refl (w : World) (F : Nat → Prop) : Chg w w F := ⟨rfl, rfl, rfl, Nat.le_refl _, fun _ _ _ => rfl⟩
theorem Chg.trans {a b c : World} {F G : Nat → Prop} (h : Chg a b F) (k : Chg b c G) (hG : ∀ i, i < a.heap.size → G i → F i) : Chg a c F :=
  ⟨k.os.trans h.os, k.tape.trans h.tape, k.output.trans h.output, Nat.le_trans h.size k.size,
    fun i hi hf => (k.block i (Nat.lt_of_lt_of_le hi h.size) (fun g => hf (hG i hi g))).trans (h.block i hi hf)⟩
theorem Chg.mono {w w' : World} {F G : Nat → Prop} (h : Chg w w' F) (hG : ∀ i, i < w.heap.size → F i → G i) : Chg w w' G :=
  ⟨h.os, h.tape, h.output, h.size, fun i hi hg => h.block i hi (fun f => hg (hG i hi f))⟩
theorem Chg.drew {a w : World} {F : Nat → Prop} (h : Chg a w F) : Chg a w.drew F := ⟨h.os, h.tape, h.output, h.size, h.block⟩
theorem Chg.drewN {a w : World} {F : Nat → Prop} (h : Chg a w F) (n : Nat) : Chg a (w.drewN n) F := ⟨h.os, h.tape, h.output, h.size, h.block⟩
theorem Chg.alloc {a w : World} {F : Nat → Prop} (h : Chg a w F) (o : Obj) : Chg a (w.alloc o) F :=
  ⟨h.os, h.tape, h.output, by simp; exact Nat.le_succ_of_le h.size, fun k hk hf => (Below.heap_alloc w o k (Nat.lt_of_lt_of_le hk h.size)).trans (h.block k hk hf)⟩
theorem Chg.setCell {a w : World} {F : Nat → Prop} (h : Chg a w F) {p : Addr} (hp : F p.block ∨ a.heap.size ≤ p.block) (u : Value) : Chg a (w.setCell p u) F :=
  ⟨h.os, h.tape, h.output, by simp [World.setCell]; exact h.size, fun k hk hf => (Below.heap_setCell _ _ _ _ (fun e => by
    rcases hp with hp | hp
    · exact hf (e ▸ hp)
    · omega)).trans (h.block k hk hf)⟩
theorem Chg.below {w w' : World} {F : Nat → Prop} (h : Chg w w' F) {B : Nat} (hB : ∀ k, k < B → k < w.heap.size ∧ ¬ F k) : Below B w w' :=
  ⟨h.os, h.tape, h.output, h.size, fun k hk => h.block k (hB k hk).1 (hB k hk).2⟩
theorem Chg.ofBelow {w w' : World} (h : Below w.heap.size w w') : Chg w w' nob := ⟨h.os, h.tape, h.output, h.size, fun k hk _ => h.block k hk⟩
theorem Chg.toBelow {w w' : World} (h : Chg w w' nob) : Below w.heap.size w w' := ⟨h.os, h.tape, h.output, h.size, fun k hk => h.block k hk id⟩
theorem Chg.ofGrown {w w' : World} {row : Option Nat} (h : w.grownBy w' row) : Chg w w' (fun k => row = some k) :=
  ⟨h.os, h.tape, h.output, h.size, fun k hk hf => h.block k hk (fun e => hf e.symm)⟩
theorem Chg.cell {w w' : World} {F : Nat → Prop} (h : Chg w w' F) {a : Addr} {v : Value} (hc : w.cell? a = some v) (hf : ¬ F a.block) : w'.cell? a = some v :=
  (World.cell?_of_block (w := w) (h.block a.block (World.block_lt_of_cell? w a hc) hf)).trans hc

/-- Block b is a row of these cells, none of them frozen. -/
def Blk (w : World) (b : Nat) (t : TypeId) (cs : Array Value) : Prop := w.heap[b]? = some (.cells cs t (0, 0))
theorem Blk.lt {w : World} {b : Nat} {t : TypeId} {cs : Array Value} (h : Blk w b t cs) : b < w.heap.size := lt_of_block h
theorem Blk.cell {w : World} {b : Nat} {t : TypeId} {cs : Array Value} (h : Blk w b t cs) (j : Nat) : w.cell? ⟨b, j, none⟩ = cs[j]? := cell_of_row w b j cs t _ h
theorem Blk.free {w : World} {b : Nat} {t : TypeId} {cs : Array Value} (h : Blk w b t cs) (j : Nat) : w.frozen? ⟨b, j, none⟩ = false := frozen_of_row w b j cs t h
theorem Blk.kept {w w' : World} {b : Nat} {t : TypeId} {cs : Array Value} {F : Nat → Prop} (h : Blk w b t cs) (hc : Chg w w' F) (hf : ¬ F b) : Blk w' b t cs := (hc.block b h.lt hf).trans h
theorem Blk.new (w : World) (t : TypeId) (cs : Array Value) : Blk (w.alloc (.cells cs t)) w.heap.size t cs := heap_alloc_new w _
theorem Blk.alloc {w : World} {b : Nat} {t : TypeId} {cs : Array Value} (h : Blk w b t cs) (o : Obj) : Blk (w.alloc o) b t cs := (Below.heap_alloc w o b h.lt).trans h
theorem Blk.set {w : World} {b : Nat} {t : TypeId} {cs : Array Value} (h : Blk w b t cs) (j : Nat) (u : Value) : Blk (w.setCell ⟨b, j, none⟩ u) b t (cs.setIfInBounds j u) := heap_setCell_same w b j cs t u h
theorem Blk.other {w : World} {b : Nat} {t : TypeId} {cs : Array Value} (h : Blk w b t cs) {p : Addr} (hp : b ≠ p.block) (u : Value) : Blk (w.setCell p u) b t cs := (Below.heap_setCell w p u b hp).trans h
theorem Blk.inj {w : World} {b : Nat} {t t' : TypeId} {cs cs' : Array Value} (h : Blk w b t cs) (h' : Blk w b t' cs') : t = t' ∧ cs = cs' := by
  unfold Blk at h h'; rw [h] at h'; simp at h'; exact ⟨h'.2, h'.1⟩

/-- v is a slice of n elements (of type e, size cells each) at the head of a row of its own. -/
abbrev Own (w : World) (e : TypeId) (size : Nat) (v : Value) (n : Nat) (xs : List Value) : Prop := w.ownsRow 0 e size v n xs
abbrev blkOf (v : Value) : Nat → Prop := fun k => v.ownBlock = some k

theorem Own.kept {w w' : World} {e : TypeId} {size : Nat} {v : Value} {n : Nat} {xs : List Value} {F : Nat → Prop} (h : Own w e size v n xs) (hc : Chg w w' F) (hf : ∀ k, blkOf v k → ¬ F k) : Own w' e size v n xs := by
  refine ⟨h.1, ?_⟩
  rcases h.2 with h2 | ⟨g, cap, cur, hv, hg, hh, r⟩
  · exact .inl h2
  · refine .inr ⟨g, cap, cur, hv, hg, ?_, r⟩
    subst hv
    exact (hc.block g (lt_of_block hh) (hf g rfl)).trans hh
theorem Own.row {w : World} {e : TypeId} {size : Nat} {v : Value} {n : Nat} {xs : List Value} (h : Own w e size v n xs) {k : Nat} (hk : blkOf v k) : ∃ cur, Blk w k e cur := by
  rcases h.2 with ⟨hv, _⟩ | ⟨g, cap, cur, hv, hg, hh, r⟩
  · subst hv; cases hk
  · subst hv; cases hk; exact ⟨cur, hh⟩
theorem Own.lt {w : World} {e : TypeId} {size : Nat} {v : Value} {n : Nat} {xs : List Value} (h : Own w e size v n xs) {k : Nat} (hk : blkOf v k) : k < w.heap.size := by
  obtain ⟨_, hb⟩ := h.row hk; exact hb.lt
/-- A row and a block of another type are two. -/
theorem Own.ne {w : World} {e t : TypeId} {size : Nat} {v : Value} {n : Nat} {xs : List Value} {b : Nat} {cs : Array Value} (h : Own w e size v n xs) (hb : Blk w b t cs) (ht : e ≠ t) : ¬ blkOf v b := fun hk => by
  obtain ⟨_, hb'⟩ := h.row hk; exact ht (hb'.inj hb).1
theorem Own.form {w : World} {e : TypeId} {size : Nat} {v : Value} {n : Nat} {xs : List Value} (h : Own w e size v n xs) : ∃ ao cap, v = .slice ao n cap ∧ n ≤ cap ∧ cap ≤ 9223372036854775807 ∧ (ao = none → n = 0 ∧ cap = 0) ∧ ∀ a, ao = some a → ∃ g, a = ⟨g, 0, none⟩ := by
  rcases h.2 with ⟨hv, hn⟩ | ⟨g, cap, cur, hv, hg, hh, h1, h2, _⟩
  · subst hv hn; exact ⟨none, 0, rfl, Nat.le_refl _, by omega, fun _ => ⟨rfl, rfl⟩, fun a ha => by cases ha⟩
  · exact ⟨_, cap, hv, h1, by unfold maxLen at h2; omega, fun h => (by cases h), fun a ha => ⟨g, by cases ha; rfl⟩⟩

theorem Own.setOther {w : World} {e : TypeId} {size : Nat} {v : Value} {n : Nat} {xs : List Value} (h : Own w e size v n xs) {p : Addr} (hp : ¬ blkOf v p.block) (u : Value) : Own (w.setCell p u) e size v n xs := ownsRow_setCell_other h hp u

theorem blk_same {ao : Option Addr} {n c m d k : Nat} (h : blkOf (.slice ao n c) k) : blkOf (.slice ao m d) k := by cases ao <;> exact h

theorem Chg.setCells {a : World} {F : Nat → Prop} {b : Nat} (hp : F b ∨ a.heap.size ≤ b) : ∀ (vs : List Value) (o : Nat) {w : World}, Chg a w F → Chg a (w.setCells b o vs) F
  | [], _, _, h => h
  | v :: r, o, _, h => Chg.setCells hp r (o + 1) (h.setCell (p := ⟨b, o, none⟩) hp v)
theorem Blk.otherCells {b t : Nat} {e : TypeId} {cs : Array Value} (hne : b ≠ t) : ∀ (vs : List Value) (o : Nat) {w : World}, Blk w b e cs → Blk (w.setCells t o vs) b e cs
  | [], _, _, h => h
  | v :: r, o, _, h => Blk.otherCells hne r (o + 1) (h.other (p := ⟨t, o, none⟩) hne v)
def putL : List Value → Nat → List Value → List Value
  | xs, _, [] => xs
  | xs, o, v :: r => putL (xs.set o v) (o + 1) r
theorem putL_eq : ∀ (vs xs : List Value) (o : Nat), o + vs.length ≤ xs.length → putL xs o vs = xs.take o ++ vs ++ xs.drop (o + vs.length)
  | [], xs, o, h => by simp [putL]
  | v :: r, xs, o, h => by
    simp only [List.length_cons] at h
    rw [putL, putL_eq r _ _ (by simp; omega), List.take_add_one]
    simp only [List.length_cons]
    rw [List.take_set_of_le (Nat.le_refl o), List.drop_set_of_lt (by omega)]
    simp [show o < xs.length by omega, show o + 1 + r.length = o + (r.length + 1) by omega]
theorem Own.setCells {e : TypeId} {size g n cap : Nat} : ∀ (vs : List Value) (o : Nat) {w : World} {xs : List Value}, Own w e size (.slice (some ⟨g, 0, none⟩) n cap) n xs → Own (w.setCells g o vs) e size (.slice (some ⟨g, 0, none⟩) n cap) n (putL xs o vs)
  | [], _, _, _, h => h
  | v :: r, o, _, _, h => Own.setCells r (o + 1) (h.stored o v).1

/-- v is a slice of n elements (size cells each) whose cells are xs: to be read. -/
def Rd (w : World) (size : Nat) (v : Value) (n : Nat) (xs : List Value) : Prop :=
  ∃ ao cap, v = .slice ao n cap ∧ n ≤ cap ∧ xs.length = n * size ∧ ∀ j u, xs[j]? = some u → ∃ b o, ao = some ⟨b, o, none⟩ ∧ w.cell? ⟨b, o + j, none⟩ = some u
theorem Own.rd {w : World} {e : TypeId} {size : Nat} {v : Value} {n : Nat} {xs : List Value} (h : Own w e size v n xs) : Rd w size v n xs := by
  rcases h.2 with ⟨hv, hn⟩ | ⟨g, cap, cur, hv, hg, hh, h1, h2, h3, h4⟩
  · subst hv hn
    exact ⟨none, 0, rfl, Nat.le_refl _, h.1, fun j u hu => by have := (List.getElem?_eq_some_iff.1 hu).1; have := h.1; omega⟩
  · refine ⟨_, cap, hv, h1, h.1, fun j u hu => ⟨g, 0, rfl, ?_⟩⟩
    subst hv
    have hj := (List.getElem?_eq_some_iff.1 hu).1
    rw [h.1] at hj
    rw [Nat.zero_add, h.cellAt j hj, hu]
theorem Rd.kept {w w' : World} {size : Nat} {v : Value} {n : Nat} {xs : List Value} {F : Nat → Prop} (h : Rd w size v n xs) (hc : Chg w w' F) (hf : ∀ k, blkOf v k → ¬ F k) : Rd w' size v n xs := by
  obtain ⟨ao, cap, hv, h1, h2, h3⟩ := h
  refine ⟨ao, cap, hv, h1, h2, fun j u hu => ?_⟩
  obtain ⟨b, o, ha, hcell⟩ := h3 j u hu
  exact ⟨b, o, ha, hc.cell hcell (hf b (by subst hv ha; rfl))⟩
theorem Rd.cell {w : World} {size : Nat} {ao : Option Addr} {cap n : Nat} {xs : List Value} (h : Rd w size (.slice ao n cap) n xs) {j : Nat} {u : Value} (hu : xs[j]? = some u) : ∃ b o, ao = some ⟨b, o, none⟩ ∧ w.cell? ⟨b, o + j, none⟩ = some u := by
  obtain ⟨ao', cap', hv, h1, h2, h3⟩ := h
  cases hv
  exact h3 j u hu
theorem Rd.form {w : World} {size : Nat} {v : Value} {n : Nat} {xs : List Value} (h : Rd w size v n xs) : ∃ ao cap, v = .slice ao n cap ∧ n ≤ cap ∧ xs.length = n * size := by
  obtain ⟨ao, cap, hv, h1, h2, h3⟩ := h
  exact ⟨ao, cap, hv, h1, h2⟩
/-- What a literal list has just laid into a new block. -/
theorem Rd.made (w : World) (t : TypeId) (cs : Array Value) {size n c : Nat} (hs : cs.size = n * size) (hc : n ≤ c) : Rd (w.alloc (.cells cs t)) size (.slice (some ⟨w.heap.size, 0, none⟩) n c) n cs.toList :=
  ⟨_, c, rfl, hc, by simpa using hs, fun j u hu => ⟨w.heap.size, 0, rfl, by rw [Nat.zero_add, (Blk.new w t cs).cell]; simpa using hu⟩⟩
theorem Rd.alloc {w : World} {size : Nat} {v : Value} {n : Nat} {xs : List Value} (h : Rd w size v n xs) (o : Obj) : Rd (w.alloc o) size v n xs := h.kept ((Chg.refl w nob).alloc o) (fun _ _ => id)
/-- The form's own reading of a slice of whole numbers. -/
theorem Rd.ofRow {w : World} {k : IntKind} {a : Option Addr} {len cap : Nat} {zs : List Int}
    (h : (a = none ∧ len = 0 ∧ cap = 0 ∧ zs = []) ∨ ∃ x, a = some x ∧ len ≤ cap ∧ cap ≤ maxLen ∧ zs.length = cap ∧ (∀ i, i < zs.length → w.cell? (x.add i) = some (.int k (zs.getD i 0))) ∧ ∀ n ∈ zs, (Lit.int k n).wf = true) :
    Rd w 1 (.slice a len cap) len ((zs.take len).map (Value.int k)) ∧ (zs.take len).length = len ∧ ∀ n ∈ zs.take len, (Lit.int k n).wf = true := by
  rcases h with ⟨rfl, rfl, rfl, rfl⟩ | ⟨x, rfl, h1, h2, h3, h4, h5⟩
  · exact ⟨⟨none, 0, rfl, Nat.le_refl _, by simp, fun j u hu => by simp at hu⟩, rfl, fun n hn => by simp at hn⟩
  · refine ⟨⟨some x, cap, rfl, h1, by simp; omega, fun j u hu => ?_⟩, by simp; omega, fun n hn => h5 n (List.mem_of_mem_take hn)⟩
    have hj := (List.getElem?_eq_some_iff.1 hu).1
    simp only [List.length_map, List.length_take] at hj
    have hj1 : j < len := by omega
    have hj2 : j < zs.length := by omega
    have hc := h4 j hj2
    have h0 := h4 0 (by omega)
    have hu' : u = .int k (zs.getD j 0) := by
      simp only [List.getElem?_map, List.getElem?_take, hj1, if_true, List.getElem?_eq_getElem hj2, Option.map_some, Option.some.injEq] at hu
      simp [← hu, List.getD, hj2]
    subst hu'
    cases x with
    | mk b o s =>
      cases s with
      | none => exact ⟨b, o, rfl, by rw [Addr.add_lit] at hc; exact hc⟩
      | some s =>
        exfalso
        simp only [Addr.add, if_true, World.cell?, Option.isSome_some] at h0
        split at h0 <;> cases h0

theorem Own.at {w : World} {e : TypeId} {ao : Option Addr} {n cap : Nat} {xs : List Value} (h : Own w e 1 (.slice ao n cap) n xs) {j : Nat} (hj : j < n) : ∃ g, ao = some ⟨g, 0, none⟩ ∧ w.cell? ⟨g, j, none⟩ = xs[j]? := by
  rcases h.2 with ⟨hv, hn⟩ | ⟨g, c, cur, hv, hg, hh, h1, h2, h3, h4⟩
  · omega
  · cases hv
    exact ⟨g, rfl, h.cellAt j (by omega)⟩

theorem wf_i64_b {a : Int} (h : (Lit.int .i64 a).wf = true) : -9223372036854775808 ≤ a ∧ a ≤ 9223372036854775807 := by simpa [Lit.wf, IntKind.min, IntKind.max, IntKind.signed, IntKind.bits] using h
theorem wf_i32_b {a : Int} (h : (Lit.int .i32 a).wf = true) : -2147483648 ≤ a ∧ a ≤ 2147483647 := by simpa [Lit.wf, IntKind.min, IntKind.max, IntKind.signed, IntKind.bits] using h
theorem wf_u8_b {a : Int} (h : (Lit.int .u8 a).wf = true) : 0 ≤ a ∧ a ≤ 255 := by simpa [Lit.wf, IntKind.min, IntKind.max, IntKind.signed, IntKind.bits] using h
theorem wf_u32_b {a : Int} (h : (Lit.int .u32 a).wf = true) : 0 ≤ a ∧ a ≤ 4294967295 := by simpa [Lit.wf, IntKind.min, IntKind.max, IntKind.signed, IntKind.bits] using h
theorem wf_u64_b {a : Int} (h : (Lit.int .u64 a).wf = true) : 0 ≤ a ∧ a ≤ 18446744073709551615 := by simpa [Lit.wf, IntKind.min, IntKind.max, IntKind.signed, IntKind.bits] using h

theorem max2_int (k k' : IntKind) (x y : Int) : Builtin.max2 (.int k x) (.int k' y) = pure (.int k (if x < y then y else x)) := by simp only [Builtin.max2, gt_iff_lt]
theorem min2_int (k k' : IntKind) (x y : Int) : Builtin.min2 (.int k x) (.int k' y) = pure (.int k (if y < x then y else x)) := by simp only [Builtin.min2]
def mxI (x y : Int) : Int := if x < y then y else x
def mnI (x y : Int) : Int := if y < x then y else x
theorem run_min_two {P : Program} {w : World} (ats : Array TypeId) (ty : TypeId) (k k' : IntKind) (x y : Int) : (Builtin.min_ ats ty #[.int k x, .int k' y]).run P w = .ok (.int k (mnI x y)) w := by
  simp only [Builtin.min_, List.foldlM_cons, List.foldlM_nil, min2_int]; rfl
theorem run_max_two {P : Program} {w : World} (ats : Array TypeId) (ty : TypeId) (k k' : IntKind) (x y : Int) : (Builtin.max_ ats ty #[.int k x, .int k' y]).run P w = .ok (.int k (mxI x y)) w := by
  simp only [Builtin.max_, List.foldlM_cons, List.foldlM_nil, max2_int]; rfl
theorem mxI_le {x y : Int} (h : x ≤ y) : mxI x y = y := by unfold mxI; split <;> omega
theorem mxI_ge {x y : Int} (h : y ≤ x) : mxI x y = x := by unfold mxI; split <;> omega
theorem mnI_le {x y : Int} (h : x ≤ y) : mnI x y = x := by unfold mnI; split <;> omega
theorem mnI_ge {x y : Int} (h : y ≤ x) : mnI x y = y := by unfold mnI; split <;> omega

section
variable {P : Program} {w : World}
/-- append onto a row of one's own, from a source whose cells are known. -/
theorem run_app (t ty e : TypeId) (i : TypeInfo) (z : Value) (size bytes : Nat) (ht : P.underlying t = some (.slice e)) (hi : P.info? e = some i) (hz : i.zero = some z)
    (hsize : i.size = size) (hby : i.bytes = bytes) (hzs : z.cells.size = size) (hsz : 0 < size)
    (v : Value) (n : Nat) (xs : List Value) (hown : Own w e size v n xs)
    (ao : Option Addr) (m c : Nat) (news : List Value) (hnone : ao = none → m = 0 ∧ c = 0) (hl : news.length = m * size) (hnews : ∀ a, ao = some a → ∀ j u, news[j]? = some u → w.cell? (a.add j) = some u) (h1 : ∀ u ∈ news, u.oneCell' = true)
    (h63 : n + m ≤ maxLen) (hbytes : (n + m) * bytes ≤ 140737488355328) :
    ∃ v' w', (Builtin.append_ #[t, t] ty #[v, .slice ao m c]).run P w = .ok v' w' ∧ Own w' e size v' (n + m) (xs ++ news) ∧ Chg w w' (blkOf v) ∧ (∀ k, blkOf v' k → blkOf v k ∨ w.heap.size ≤ k) := by
  cases ao with
  | none =>
    obtain ⟨rfl, rfl⟩ := hnone rfl
    obtain rfl : news = [] := List.eq_nil_of_length_eq_zero (by simpa using hl)
    exact ⟨v, w, run_append_owned_none w 0 t ty e i size ht hi v n xs hown, by simpa using hown, Chg.refl _ _, fun k hk => .inl hk⟩
  | some a =>
    rcases hown.2 with ⟨rfl, rfl⟩ | ⟨g, cap, cur, rfl, hbg, hg, hnc, hcm, hcs, htake⟩
    · obtain ⟨v', w', hr, ho, hgr, _⟩ := run_append_own (P := P) w w.heap.size t ty e i z size bytes ht hi hz hsize hby hzs hsz (.slice none 0 0) 0 xs ⟨hown.1, .inl ⟨rfl, rfl⟩⟩ a m c news hl (hnews a rfl) h1 h63 hbytes (Nat.le_refl _)
      refine ⟨v', w', hr, ⟨ho.1, ?_⟩, ⟨hgr.os, hgr.tape, hgr.output, hgr.size, fun k hk _ => hgr.block k hk (by simp [Value.ownBlock])⟩, fun k hk => .inr ?_⟩
      · rcases ho.2 with h | ⟨g, cap, cur, h1, _, h2⟩
        · exact .inl h
        · exact .inr ⟨g, cap, cur, h1, Nat.zero_le _, h2⟩
      · rcases ho.2 with ⟨rfl, _⟩ | ⟨g, cap, cur, rfl, hb, h2⟩
        · cases hk
        · cases hk; exact hb
    · by_cases hroom : n + m ≤ cap
      · obtain ⟨w', hr, ho, hgr⟩ := run_append_fits (P := P) w 0 t ty e i size ht hi hsize g n cap xs hown a m c news hl (hnews a rfl) h1 hroom
        exact ⟨_, w', hr, ho, (Chg.ofGrown hgr).mono fun k _ h => h, fun k hk => .inl hk⟩
      · obtain ⟨v', w', hr, ho, hgr⟩ := run_append_arg_grows (P := P) w t ty e i z size bytes ht hi hz hsize hby hzs hsz ⟨g, 0, none⟩ n cap xs hown.1 (hown.cells (g := g) rfl) a m c news hl (hnews a rfl) (by omega) h63 hbytes
        refine ⟨v', w', hr, ⟨ho.1, ?_⟩, ⟨hgr.os, hgr.tape, hgr.output, hgr.size, fun k hk _ => hgr.block k hk (by simp)⟩, fun k hk => .inr ?_⟩
        · rcases ho.2 with h | ⟨g, cap, cur, h1, _, h2⟩
          · exact .inl h
          · exact .inr ⟨g, cap, cur, h1, Nat.zero_le _, h2⟩
        · rcases ho.2 with ⟨rfl, _⟩ | ⟨g, cap, cur, rfl, hb, h2⟩
          · cases hk
          · cases hk; exact hb

theorem wp_app {o : Oper} {a : Act} {K : Act → World → Prop} {Q : Exit → Act → World → Prop} (s x : Operand) (t : TypeId)
    (ho : o.op = .call { callee := .builtin .append, args := #[s, x], argTypes := #[t, t] })
    (e : TypeId) (z : Value) (size bytes : Nat) (hi : (P.info? e).map (fun i => (i.zero, i.size, i.bytes)) = some (some z, size, bytes)) (ht : P.underlying t = some (.slice e)) (hzs : z.cells.size = size) (hsz : 0 < size)
    (v : Value) (n : Nat) (xs : List Value) (hs : a.eval s = v) (hown : Own w e size v n xs)
    (ao : Option Addr) (m c : Nat) (news : List Value) (hx : a.eval x = .slice ao m c) (hnone : ao = none → m = 0 ∧ c = 0) (hl : news.length = m * size) (hnews : ∀ b, ao = some b → ∀ j u, news[j]? = some u → w.cell? (b.add j) = some u) (h1 : ∀ u ∈ news, u.oneCell' = true)
    (h63 : n + m ≤ maxLen) (hbytes : (n + m) * bytes ≤ 140737488355328)
    (h : ∀ v' w', Own w' e size v' (n + m) (xs ++ news) → Chg w w' (blkOf v) → (∀ k, blkOf v' k → blkOf v k ∨ w.heap.size ≤ k) → K (a.put o.dst v') w') : o.wp P a w K Q := by
  obtain ⟨i, hi, hz, hsize, hby⟩ := info_parts hi
  obtain ⟨v', w', hr, h2, h3, h4⟩ := run_app (P := P) t o.type e i z size bytes ht hi hz hsize hby hzs hsz v n xs hown ao m c news hnone hl hnews h1 h63 hbytes
  unfold Oper.wp execOp
  simp only [ho, resolve, invoke, builtin, Sem.run_bind, Sem.run_pure, Result.andThen_ok, List.map_toArray, List.map_cons, List.map_nil, hs, hx, hr]
  exact h v' w' h2 h3 h4

theorem wpList_app {ops : Array Oper} {rest : List Oper} {o : Oper} {a : Act} {Q : Exit → Act → World → Prop} (hgd : o.guard = none) (s x : Operand) (t : TypeId)
    (ho : o.op = .call { callee := .builtin .append, args := #[s, x], argTypes := #[t, t] })
    (e : TypeId) (z : Value) (size bytes : Nat) (hi : (P.info? e).map (fun i => (i.zero, i.size, i.bytes)) = some (some z, size, bytes)) (ht : P.underlying t = some (.slice e)) (hzs : z.cells.size = size) (hsz : 0 < size)
    (v : Value) (n : Nat) (xs : List Value) (hs : a.eval s = v) (hown : Own w e size v n xs)
    (ao : Option Addr) (m c : Nat) (news : List Value) (hx : a.eval x = .slice ao m c) (hnone : ao = none → m = 0 ∧ c = 0) (hl : news.length = m * size) (hnews : ∀ b, ao = some b → ∀ j u, news[j]? = some u → w.cell? (b.add j) = some u) (h1 : ∀ u ∈ news, u.oneCell' = true)
    (h63 : n + m ≤ maxLen) (hbytes : (n + m) * bytes ≤ 140737488355328)
    (h : ∀ v' w', Own w' e size v' (n + m) (xs ++ news) → Chg w w' (blkOf v) → (∀ k, blkOf v' k → blkOf v k ∨ w.heap.size ≤ k) → wpList P ops Q rest (a.put o.dst v') w') : wpList P ops Q (o :: rest) a w :=
  wpList_plain hgd fun _ hK => wp_app s x t ho e z size bytes hi ht hzs hsz v n xs hs hown ao m c news hx hnone hl hnews h1 h63 hbytes fun v' w' h2 h3 h4 => hK _ _ (h v' w' h2 h3 h4)

/-- The same as one step of a region that draws its order. -/
theorem step_app {ops : Array Oper} {o : Oper} {a : Act} {K : Act → World → Prop} {Q : Exit → Act → World → Prop} {E : Prop} (hgd : o.guard = none) (s x : Operand) (t : TypeId)
    (ho : o.op = .call { callee := .builtin .append, args := #[s, x], argTypes := #[t, t] })
    (e : TypeId) (z : Value) (size bytes : Nat) (hi : (P.info? e).map (fun i => (i.zero, i.size, i.bytes)) = some (some z, size, bytes)) (ht : P.underlying t = some (.slice e)) (hzs : z.cells.size = size) (hsz : 0 < size)
    (v : Value) (n : Nat) (xs : List Value) (hs : a.eval s = v) (hown : Own w e size v n xs)
    (ao : Option Addr) (m c : Nat) (news : List Value) (hx : a.eval x = .slice ao m c) (hnone : ao = none → m = 0 ∧ c = 0) (hl : news.length = m * size) (hnews : ∀ b, ao = some b → ∀ j u, news[j]? = some u → w.cell? (b.add j) = some u) (h1 : ∀ u ∈ news, u.oneCell' = true)
    (h63 : n + m ≤ maxLen) (hbytes : (n + m) * bytes ≤ 140737488355328)
    (h : ∀ v' w', Own w' e size v' (n + m) (xs ++ news) → Chg w w' (blkOf v) → (∀ k, blkOf v' k → blkOf v k ∨ w.heap.size ≤ k) → K (a.put o.dst v') w') : if Region.wanted o (yielded ops a.tmps) = true then Oper.wp P o a w K Q else E := by
  have hw : Region.wanted o (yielded ops a.tmps) = true := by simp [Region.wanted, hgd]
  rw [if_pos hw]
  exact wp_app s x t ho e z size bytes hi ht hzs hsz v n xs hs hown ao m c news hx hnone hl hnews h1 h63 hbytes h
/-- append of what a literal list has just laid into a new block. -/
theorem wp_push {o : Oper} {a : Act} {K : Act → World → Prop} {Q : Exit → Act → World → Prop} {us : Array Value} {t' : TypeId} (s x : Operand) (t : TypeId)
    (ho : o.op = .call { callee := .builtin .append, args := #[s, x], argTypes := #[t, t] })
    (e : TypeId) (z : Value) (size bytes : Nat) (hi : (P.info? e).map (fun i => (i.zero, i.size, i.bytes)) = some (some z, size, bytes)) (ht : P.underlying t = some (.slice e)) (hzs : z.cells.size = size) (hsz : 0 < size)
    (v : Value) (n : Nat) (xs : List Value) (hs : a.eval s = v) (hown : Own w e size v n xs)
    (m c : Nat) (hx : a.eval x = .slice (some ⟨w.heap.size, 0, none⟩) m c) (hl : us.size = m * size) (h1 : us.toList.all Value.oneCell' = true)
    (h63 : n + m ≤ maxLen) (hbytes : (n + m) * bytes ≤ 140737488355328)
    (h : ∀ v' w', Own w' e size v' (n + m) (xs ++ us.toList) → Chg w w' (blkOf v) → (∀ k, blkOf v' k → blkOf v k ∨ w.heap.size ≤ k) → K (a.put o.dst v') w') : o.wp P a (w.alloc (.cells us t')) K Q := by
  refine wp_app s x t ho e z size bytes hi ht hzs hsz v n xs hs (hown.alloc _) (some ⟨w.heap.size, 0, none⟩) m c us.toList hx (by simp) (by simpa using hl) ?_ (fun u hu => List.all_eq_true.1 h1 u hu) h63 hbytes ?_
  · intro b hb j u hu
    cases hb
    rw [Addr.add_lit, Nat.zero_add, (Blk.new w t' us).cell]
    simpa using hu
  · intro v' w' h2 h3 h4
    refine h v' w' h2 ?_ ?_
    · exact (Chg.alloc (Chg.refl w _) _).trans h3 (fun i _ h => h)
    · intro k hk
      rcases h4 k hk with h | h
      · exact .inl h
      · exact .inr (by simp at h; omega)
theorem wpList_push {ops : Array Oper} {rest : List Oper} {o : Oper} {a : Act} {Q : Exit → Act → World → Prop} {us : Array Value} {t' : TypeId} (hgd : o.guard = none) (s x : Operand) (t : TypeId)
    (ho : o.op = .call { callee := .builtin .append, args := #[s, x], argTypes := #[t, t] })
    (e : TypeId) (z : Value) (size bytes : Nat) (hi : (P.info? e).map (fun i => (i.zero, i.size, i.bytes)) = some (some z, size, bytes)) (ht : P.underlying t = some (.slice e)) (hzs : z.cells.size = size) (hsz : 0 < size)
    (v : Value) (n : Nat) (xs : List Value) (hs : a.eval s = v) (hown : Own w e size v n xs)
    (m c : Nat) (hx : a.eval x = .slice (some ⟨w.heap.size, 0, none⟩) m c) (hl : us.size = m * size) (h1 : us.toList.all Value.oneCell' = true)
    (h63 : n + m ≤ maxLen) (hbytes : (n + m) * bytes ≤ 140737488355328)
    (h : ∀ v' w', Own w' e size v' (n + m) (xs ++ us.toList) → Chg w w' (blkOf v) → (∀ k, blkOf v' k → blkOf v k ∨ w.heap.size ≤ k) → wpList P ops Q rest (a.put o.dst v') w') : wpList P ops Q (o :: rest) a (w.alloc (.cells us t')) :=
  wpList_plain hgd fun _ hK => wp_push s x t ho e z size bytes hi ht hzs hsz v n xs hs hown m c hx hl h1 h63 hbytes fun v' w' h2 h3 h4 => hK _ _ (h v' w' h2 h3 h4)
theorem step_push {ops : Array Oper} {o : Oper} {a : Act} {K : Act → World → Prop} {Q : Exit → Act → World → Prop} {E : Prop} {us : Array Value} {t' : TypeId} (hgd : o.guard = none) (s x : Operand) (t : TypeId)
    (ho : o.op = .call { callee := .builtin .append, args := #[s, x], argTypes := #[t, t] })
    (e : TypeId) (z : Value) (size bytes : Nat) (hi : (P.info? e).map (fun i => (i.zero, i.size, i.bytes)) = some (some z, size, bytes)) (ht : P.underlying t = some (.slice e)) (hzs : z.cells.size = size) (hsz : 0 < size)
    (v : Value) (n : Nat) (xs : List Value) (hs : a.eval s = v) (hown : Own w e size v n xs)
    (m c : Nat) (hx : a.eval x = .slice (some ⟨w.heap.size, 0, none⟩) m c) (hl : us.size = m * size) (h1 : us.toList.all Value.oneCell' = true)
    (h63 : n + m ≤ maxLen) (hbytes : (n + m) * bytes ≤ 140737488355328)
    (h : ∀ v' w', Own w' e size v' (n + m) (xs ++ us.toList) → Chg w w' (blkOf v) → (∀ k, blkOf v' k → blkOf v k ∨ w.heap.size ≤ k) → K (a.put o.dst v') w') : if Region.wanted o (yielded ops a.tmps) = true then Oper.wp P o a (w.alloc (.cells us t')) K Q else E := by
  have hw : Region.wanted o (yielded ops a.tmps) = true := by simp [Region.wanted, hgd]
  rw [if_pos hw]
  exact wp_push s x t ho e z size bytes hi ht hzs hsz v n xs hs hown m c hx hl h1 h63 hbytes h
end
abbrev ptr (g : Nat) : Value := .pointer (some ⟨g, 0, none⟩)
end Go.Proofs.Ytmekakecdgblaaa
