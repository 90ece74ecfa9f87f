
/-
  bytes.Join, as the library's shelf has it; parts of bytes.
-/
import Derived.Ground.SlbNamesProg
import Derived.Test.YtmekakecdgblaaaProg
import Derived.Shelf.Lay
import Derived.Shelf.Bytes.SlJoin
import Derived.Test.YtmekakecdgblaaaClone
import Derived.Test.YtmekakecdgblaaaA
namespace Go.Proofs.Ytmekakecdgblaaa
open Go.Shelf Go.Lib Go.RowKit
set_option linter.unusedVariables false
set_option linter.unusedSimpArgs false

shelf_lay SlLaysJ.n14 Slb 14 at Try as joinLays
def byteL (l : List Int) : Prop := ∀ x ∈ l, 0 ≤ x ∧ x ≤ 255
theorem bytesOf_back {a : List Int} (h : byteL a) : (bytesOf a).map (fun u => ((u.toNat : Nat) : Int)) = a := by
  unfold bytesOf
  rw [List.map_map]
  conv => rhs; rw [← List.map_id a]
  refine List.map_congr_left fun x hx => ?_
  have := h x hx
  simp
  omega
theorem bytesOf_inj {a b : List Int} (ha : byteL a) (hb : byteL b) (h : bytesOf a = bytesOf b) : a = b := by
  rw [← bytesOf_back ha, ← bytesOf_back hb, h]
theorem bytesOf_len (a : List Int) : (bytesOf a).length = a.length := by simp [bytesOf]
theorem flat_bytes (P : List (List Int)) : (P.map bytesOf).flatten = bytesOf P.flatten := by
  induction P with
  | nil => rfl
  | cons l P ih => rw [List.map_cons, List.flatten_cons, List.flatten_cons, ih]; simp [bytesOf]
theorem join_flat (P : List (List Int)) : Lib.join (P.map bytesOf) [] = bytesOf P.flatten := by
  cases P with
  | nil => rfl
  | cons l P =>
    rw [List.map_cons, Lib.join_cons, List.flatten_cons, show bytesOf (l ++ P.flatten) = bytesOf l ++ bytesOf P.flatten by simp [bytesOf], ← flat_bytes]
    simp [Lib.joinTail]
    rfl
theorem holds_of_rd {w : World} {u : Value} {l : List Int} (h : Rd w 1 u l.length (bytesV l)) (hb : byteL l) : HoldsBytes w u (bytesOf l) := by
  obtain ⟨ao, cap, rfl, h1, h2, h3⟩ := h
  refine ⟨ao, cap, by rw [bytesOf_len], fun e => ?_, fun a e i x hx => ?_⟩
  · cases l with
    | nil => rfl
    | cons x l => obtain ⟨b, o, e2, _⟩ := h3 0 (.int .u8 x) rfl; rw [e] at e2; cases e2
  · simp only [bytesOf, List.getElem?_map, Option.map_eq_some_iff] at hx
    obtain ⟨z, hz, rfl⟩ := hx
    obtain ⟨b, o, e2, hc⟩ := h3 i (.int .u8 z) (by simp [bytesV, hz])
    rw [e] at e2
    cases e2
    rw [Addr.add_lit, hc]
    have := hb z (List.mem_of_getElem? hz)
    congr 2
    simp
    omega
theorem rd_of_fresh {B : Nat} {w : World} {v : Value} {l : List Int} (h : FreshBytes B w v (bytesOf l)) (hb : byteL l) : Rd w 1 v l.length (bytesV l) ∧ NilOk v := by
  obtain ⟨g, cap, zs, rfl, hB, h1, h2, h3, h4, h5, h6, h7⟩ := h
  rw [bytesOf_len] at h1 h5 ⊢
  have hz : zs.take l.length = l := bytesOf_inj (fun x hx => by have := h4 x (List.mem_of_mem_take hx); omega) hb h5
  refine ⟨⟨_, cap, rfl, h1, by simp [bytesV], fun j u hu => ⟨g, 0, rfl, ?_⟩⟩, nilOk_some _ _ _⟩
  have hj : j < l.length := by have := (List.getElem?_eq_some_iff.1 hu).1; simpa [bytesV] using this
  rw [Nat.zero_add, h6 j (by omega)]
  have e1 : zs.getD j 0 = l.getD j 0 := by
    conv => rhs; rw [← hz]
    simp [List.getD, List.getElem?_take, hj]
  rw [e1]
  simp only [bytesV, List.getElem?_map, Option.map_eq_some_iff] at hu
  obtain ⟨z, hz2, rfl⟩ := hu
  simp [List.getD, hz2]
/-- v is a slice of slices of bytes: these. -/
def Ps (w : World) (v : Value) (P : List (List Int)) : Prop :=
  ∃ (vs : List Value) (cap b o : Nat), v = .slice (some ⟨b, o, none⟩) P.length cap ∧ P.length ≤ cap ∧ vs.length = P.length ∧ (∀ i u, vs[i]? = some u → w.cell? ⟨b, o + i, none⟩ = some u) ∧
    ∀ (i : Nat) (u : Value) (l : List Int), vs[i]? = some u → P[i]? = some l → Rd w 1 u l.length (bytesV l) ∧ NilOk u ∧ byteL l
theorem lens_map (P : List (List Int)) : lens (P.map bytesOf) = P.flatten.length := by
  induction P with
  | nil => rfl
  | cons l P ih => rw [List.map_cons, List.flatten_cons, List.length_append, ← ih]; simp [lens, bytesOf_len]
theorem Ps.bytes {w : World} {v : Value} {P : List (List Int)} (h : Ps w v P) : byteL P.flatten := by
  obtain ⟨vs, cap, b, o, rfl, h1, h2, h3, h4⟩ := h
  intro x hx
  obtain ⟨l, hl, hxl⟩ := List.mem_flatten.1 hx
  obtain ⟨i, hi⟩ := List.getElem?_of_mem hl
  have hil := (List.getElem?_eq_some_iff.1 hi).1
  exact (h4 i vs[i] l (List.getElem?_eq_getElem (by omega)) hi).2.2 x hxl
theorem rd_new {B : Nat} {w : World} {v : Value} {l : List UInt8} (h : FreshBytes B w v l) : ∀ k, blkOf v k → B ≤ k := by
  obtain ⟨g, cap, zs, rfl, hB, _⟩ := h
  intro k hk
  cases hk
  exact hB
theorem join_new (w : World) (v : Value) (P : List (List Int)) (h : Ps w v P) (h1 : 1 ≤ P.length) (hl : P.flatten.length ≤ 1000000) (hn : P.length ≤ 1000000) :
    Calls Try.prog 30 #[v, .slice none 0 0] w fun e w' => ∃ v', e = .returned v' ∧ Rd w' 1 v' P.flatten.length (bytesV P.flatten) ∧ NilOk v' ∧ Chg w w' nob ∧ ∀ k, blkOf v' k → w.heap.size ≤ k := by
  have hbf := h.bytes
  obtain ⟨vs, cap, b, o, rfl, hc, hv, hcell, hp⟩ := h
  rcases Nat.lt_or_ge P.length 2 with h2 | h2
  · obtain ⟨l, rfl⟩ : ∃ l, P = [l] := by
      match P, h1, h2 with
      | [l], _, _ => exact ⟨l, rfl⟩
      | _ :: _ :: _, _, h2 => simp at h2; omega
    obtain ⟨u, rfl⟩ : ∃ u, vs = [u] := by
      match vs, hv with
      | [u], _ => exact ⟨u, rfl⟩
    obtain ⟨hr, hno, hbl⟩ := hp 0 u l rfl rfl
    have hc0 := hcell 0 u rfl
    simp only [Nat.add_zero] at hc0
    obtain ⟨p, c0, rfl, hpn, hpc⟩ := holds_of_rd hr hbl
    simp only [List.flatten_cons, List.flatten_nil, List.append_nil] at hl hbf ⊢
    cases l with
    | nil =>
      refine (Any.bytes_Join_one_empty joinLays b o cap p c0 (.slice none 0 0) w hc0).mono ?_
      rintro e w' ⟨rfl, rfl⟩
      exact ⟨_, rfl, (Bx.nil _).1.rd, (Bx.nil w').nilOk, Chg.refl _ _, fun k hk => by cases hk⟩
    | cons x l =>
      cases p with
      | none => have := hpn rfl; simp [bytesOf] at this
      | some ad =>
        refine (Any.bytes_Join_one joinLays b o cap ad c0 (bytesOf (x :: l)) (.slice none 0 0) w hc0 (hpc ad rfl) (by rw [bytesOf_len]; simp) (by rw [bytesOf_len]; omega)).mono ?_
        rintro e w' ⟨v', rfl, hf, hbe⟩
        obtain ⟨g1, g2⟩ := rd_of_fresh hf hbl
        exact ⟨_, rfl, g1, g2, Chg.ofBelow hbe, rd_new hf⟩
  · refine (Any.bytes_Join_many joinLays b o P.length cap vs (P.map bytesOf) (.slice none 0 0) [] w (by simp) h2 ⟨by simpa using hv, fun i u hu => by rw [Addr.add_lit]; exact hcell i u hu, fun i u l hu hl2 => ?_⟩ hc ⟨none, 0, rfl, fun _ => rfl, fun a e => by cases e⟩ (by omega) (by rw [lens_map, List.length_nil, Nat.zero_mul]; omega)).mono ?_
    · rw [List.getElem?_map, Option.map_eq_some_iff] at hl2
      obtain ⟨l', hl', rfl⟩ := hl2
      obtain ⟨hr, hno, hbl⟩ := hp i u l' hu hl'
      exact holds_of_rd hr hbl
    · rintro e w' ⟨v', rfl, hf, hbe⟩
      rw [join_flat] at hf
      obtain ⟨g1, g2⟩ := rd_of_fresh hf hbf
      exact ⟨_, rfl, g1, g2, Chg.ofBelow hbe, rd_new hf⟩
theorem join_any (w : World) (v : Value) (P : List (List Int)) (h : Ps w v P) (h1 : 1 ≤ P.length) (hl : P.flatten.length ≤ 1000000) (hn : P.length ≤ 1000000) :
    Calls Try.prog 30 #[v, .slice none 0 0] w fun e w' => ∃ v', e = .returned v' ∧ Rd w' 1 v' P.flatten.length (bytesV P.flatten) ∧ NilOk v' ∧ Chg w w' nob := by
  refine (join_new w v P h h1 hl hn).mono ?_
  rintro e w' ⟨v', rfl, h1, h2, h3, _⟩
  exact ⟨v', rfl, h1, h2, h3⟩
theorem Ps.lit {w : World} {b : Nat} {T : TypeId} {vs : List Value} {P : List (List Int)} (hb : Blk w b T vs.toArray) (hl : vs.length = P.length)
    (h : ∀ (i : Nat) (u : Value) (l : List Int), vs[i]? = some u → P[i]? = some l → Rd w 1 u l.length (bytesV l) ∧ NilOk u ∧ byteL l) : Ps w (.slice (some ⟨b, 0, none⟩) P.length P.length) P :=
  ⟨vs, P.length, b, 0, rfl, Nat.le_refl _, hl, fun i u hu => by rw [Nat.zero_add, hb.cell]; simpa using hu, h⟩
theorem Ps.one {w : World} {T : TypeId} {u : Value} {l : List Int} (hr : Rd w 1 u l.length (bytesV l)) (hn : NilOk u) (hb : byteL l) : Ps (w.alloc (.cells #[u] T)) (.slice (some ⟨w.heap.size, 0, none⟩) 1 1) [l] :=
  Ps.lit (vs := [u]) (P := [l]) (Blk.new w T _) rfl fun i u' l' h1 h2 => by
    match i, h1, h2 with
    | 0, h1, h2 => cases h1; cases h2; exact ⟨hr.alloc _, hn, hb⟩
theorem Ps.two {w : World} {T : TypeId} {u v : Value} {l m : List Int} (hr : Rd w 1 u l.length (bytesV l)) (hn : NilOk u) (hb : byteL l) (hr2 : Rd w 1 v m.length (bytesV m)) (hn2 : NilOk v) (hb2 : byteL m) : Ps (w.alloc (.cells #[u, v] T)) (.slice (some ⟨w.heap.size, 0, none⟩) 2 2) [l, m] :=
  Ps.lit (vs := [u, v]) (P := [l, m]) (Blk.new w T _) rfl fun i u' l' h1 h2 => by
    match i, h1, h2 with
    | 0, h1, h2 => cases h1; cases h2; exact ⟨hr.alloc _, hn, hb⟩
    | 1, h1, h2 => cases h1; cases h2; exact ⟨hr2.alloc _, hn2, hb2⟩
theorem Ps.three {w : World} {T : TypeId} {u v x : Value} {l m n : List Int} (hr : Rd w 1 u l.length (bytesV l)) (hn : NilOk u) (hb : byteL l) (hr2 : Rd w 1 v m.length (bytesV m)) (hn2 : NilOk v) (hb2 : byteL m) (hr3 : Rd w 1 x n.length (bytesV n)) (hn3 : NilOk x) (hb3 : byteL n) : Ps (w.alloc (.cells #[u, v, x] T)) (.slice (some ⟨w.heap.size, 0, none⟩) 3 3) [l, m, n] :=
  Ps.lit (vs := [u, v, x]) (P := [l, m, n]) (Blk.new w T _) rfl fun i u' l' h1 h2 => by
    match i, h1, h2 with
    | 0, h1, h2 => cases h1; cases h2; exact ⟨hr.alloc _, hn, hb⟩
    | 1, h1, h2 => cases h1; cases h2; exact ⟨hr2.alloc _, hn2, hb2⟩
    | 2, h1, h2 => cases h1; cases h2; exact ⟨hr3.alloc _, hn3, hb3⟩
theorem Ps.four {w : World} {T : TypeId} {u v x y : Value} {l m n o : List Int} (hu : By w u l) (hv : By w v m) (hx : By w x n) (hy : By w y o) : Ps (w.alloc (.cells #[u, v, x, y] T)) (.slice (some ⟨w.heap.size, 0, none⟩) 4 4) [l, m, n, o] :=
  Ps.lit (vs := [u, v, x, y]) (P := [l, m, n, o]) (Blk.new w T _) rfl fun i u' l' h1 h2 => by
    match i, h1, h2 with
    | 0, h1, h2 => cases h1; cases h2; exact ⟨hu.rd.alloc _, hu.nil, hu.byte⟩
    | 1, h1, h2 => cases h1; cases h2; exact ⟨hv.rd.alloc _, hv.nil, hv.byte⟩
    | 2, h1, h2 => cases h1; cases h2; exact ⟨hx.rd.alloc _, hx.nil, hx.byte⟩
    | 3, h1, h2 => cases h1; cases h2; exact ⟨hy.rd.alloc _, hy.nil, hy.byte⟩
end Go.Proofs.Ytmekakecdgblaaa
