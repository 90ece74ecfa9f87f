/-
  A screen read of its bytes, in plain Lean: what was written comes back, what is read was so written, none is a beginning of another.
-/
import Derived.Test.YtmbdpcamhkdkmaaGreatDoorMg14
import Derived.Test.YtmbdpcamhkdkmaaGreatDoorEncM
import Derived.Test.YtmbdpcamhkdkmaaGreatDoorPUM
namespace Go.Proofs.YtmbdpcamhkdkmaaGreatDoor
open Go.RowKit
set_option linter.unusedVariables false
set_option linter.unusedSimpArgs false

/-- A screen. -/
structure Sc where
  r : Int
  c : Int
  l : List Ce
  y : Int
  x : Int
  h : Bool
  t : ByteArray
deriving DecidableEq
def Sc.may (s : Sc) : Bool := mayS s.r s.c s.l s.y s.x s.t
def Sc.key (s : Sc) : List Int := keyL s.r s.c s.l s.y s.x s.h s.t
def textQ (tm : Nat) (l : List Int) : Option (ByteArray × List Int) :=
  (numM tm l).bind fun n => if n.1 ≤ n.2.length then some (strOfNums (n.2.take n.1), n.2.drop n.1) else none
/-- What is read, and what is left. -/
def readQ (tm : Nat) (l : List Int) : Option (Sc × List Int) :=
  (numM 60 l).bind fun r => (numM 200 r.2).bind fun c => (numM 60 c.2).bind fun y => (numM 200 y.2).bind fun x => (numM 1 x.2).bind fun h => (textQ tm h.2).bind fun t =>
    (cellsF (r.1 * c.1) t.2).bind fun z => some (⟨r.1, c.1, z.1, y.1, x.1, decide (h.1 = 1), t.1⟩, z.2)
def decQ (tm : Nat) (l : List Int) : Option Sc := (readQ tm l).bind fun z => if z.2 = [] ∧ z.1.may = true then some z.1 else none
theorem Sc.may_b {s : Sc} (h : s.may = true) : (1 ≤ s.r ∧ s.r ≤ 60) ∧ (1 ≤ s.c ∧ s.c ≤ 200) ∧ (0 ≤ s.y ∧ s.y < s.r) ∧ (0 ≤ s.x ∧ s.x < s.c) ∧ (s.l.length : Int) = s.r * s.c ∧ (∀ c ∈ s.l, c.may = true) ∧ s.t.size ≤ 256 := by
  unfold Sc.may mayS mendF fitsF titleF at h
  simp only [Bool.and_eq_true, decide_eq_true_eq] at h
  obtain ⟨⟨⟨⟨⟨h1, h2, h3, h4⟩, h5⟩, h6⟩, h7, h8, h9, h10⟩, ⟨h11, h12⟩, h13⟩ := h
  refine ⟨⟨h1, h2⟩, ⟨h3, h4⟩, ⟨h7, h8⟩, ⟨h9, h10⟩, h5, fun c hc => ?_, ?_⟩
  · obtain ⟨k, hk, rfl⟩ := List.getElem_of_mem hc
    have h := List.all_eq_true.1 h6 k (List.mem_range.2 hk)
    unfold okC at h
    simp only [Bool.and_eq_true] at h
    have hg : s.l.getD k .z = s.l[k] := by simp [List.getD, hk]
    rw [hg] at h
    exact h.1
  · have h14 : (strOfNums (encL (signsS s.t))).size = s.t.size := by rw [runes_enc, h11]
    have h15 : (strOfNums (encL (signsS s.t))).size = (encL (signsS s.t)).length := by simp [strOfNums, ByteArray.size]
    have h16 := encL_len (signsS s.t)
    omega
theorem key_eq (s : Sc) : s.key = varL (u64N s.r) ++ (varL (u64N s.c) ++ (varL (u64N s.y) ++ (varL (u64N s.x) ++ (varL (bitN s.h) ++ (varL (u64N s.t.size) ++ (numsS s.t ++ runsL s.l)))))) := by
  simp [Sc.key, keyL, headN, varsL]
theorem textQ_there {tm : Nat} {t : ByteArray} (h : t.size ≤ tm) (h2 : t.size < 18446744073709551616) (rest : List Int) : textQ tm (varL t.size ++ (numsS t ++ rest)) = some (t, rest) := by
  unfold textQ
  rw [numM_var h2 h, Option.bind_some, if_pos (by simp [numsS_len])]
  simp only
  rw [List.take_append_of_le_length (by rw [numsS_len]; exact Nat.le_refl _), List.drop_append_of_le_length (by rw [numsS_len]; exact Nat.le_refl _), ← numsS_len, List.take_length, List.drop_length, str_numsS]
  rfl
theorem nums_str {xs : List Int} (hx : ∀ x ∈ xs, 0 ≤ x ∧ x ≤ 255) : numsS (strOfNums xs) = xs := by
  simp only [numsS, strOfNums, List.map_map]
  conv => rhs; rw [← List.map_id xs]
  refine List.map_congr_left fun x hx' => ?_
  have h := hx x hx'
  simp
  omega
theorem textQ_back {tm : Nat} {t : ByteArray} {l r : List Int} (hb : ∀ x ∈ l, 0 ≤ x ∧ x ≤ 255) (h : textQ tm l = some (t, r)) : l = varL t.size ++ (numsS t ++ r) ∧ t.size ≤ tm ∧ t.size < 18446744073709551616 := by
  unfold textQ at h
  obtain ⟨⟨n, l1⟩, h1, h2⟩ := Option.bind_eq_some_iff.1 h
  obtain ⟨e1, e2, e3⟩ := numM_back hb h1
  simp only at h2
  split at h2
  · rename_i hn
    simp only [Option.some.injEq, Prod.mk.injEq] at h2
    obtain ⟨rfl, rfl⟩ := h2
    have hb1 : ∀ x ∈ l1.take n, 0 ≤ x ∧ x ≤ 255 := fun x hx => hb x (by rw [e1]; exact List.mem_append_right _ (List.mem_of_mem_take hx))
    have hs : (strOfNums (l1.take n)).size = n := by rw [← numsS_len, nums_str hb1, List.length_take]; omega
    rw [hs, nums_str hb1, List.take_append_drop]
    exact ⟨e1, e2, e3⟩
  · cases h2
theorem bitN_b (b : Bool) : bitN b ≤ 1 := by cases b <;> decide
theorem bit_back (b : Bool) : decide (bitN b = 1) = b := by cases b <;> rfl
/-- What was written comes back. -/
theorem readQ_there {s : Sc} (h : s.may = true) (rest : List Int) : readQ 256 (s.key ++ rest) = some (s, rest) := by
  obtain ⟨⟨r1, r2⟩, ⟨c1, c2⟩, ⟨y1, y2⟩, ⟨x1, x2⟩, hl, hc, ht⟩ := Sc.may_b h
  obtain ⟨R, C, L, Y, X, H, T⟩ := s
  simp only at r1 r2 c1 c2 y1 y2 x1 x2 hl hc ht
  rw [key_eq]
  simp only
  have eT : u64N (T.size : Int) = T.size := by rw [u64N_toNat (by omega) (by omega)]; omega
  rw [u64N_toNat (n := R) (by omega) (by omega), u64N_toNat (n := C) (by omega) (by omega), u64N_toNat (n := Y) (by omega) (by omega), u64N_toNat (n := X) (by omega) (by omega), eT]
  simp only [List.append_assoc]
  unfold readQ
  rw [numM_var (by omega) (by omega), Option.bind_some]
  simp only
  rw [numM_var (by omega) (by omega), Option.bind_some]
  simp only
  rw [numM_var (by omega) (by omega), Option.bind_some]
  simp only
  rw [numM_var (by omega) (by omega), Option.bind_some]
  simp only
  rw [numM_var (by have := bitN_b H; omega) (bitN_b H), Option.bind_some]
  simp only
  rw [textQ_there ht (by omega), Option.bind_some]
  simp only
  have hn : R.toNat * C.toNat = L.length := by
    have h1 : ((R.toNat * C.toNat : Nat) : Int) = (L.length : Int) := by rw [Int.natCast_mul, Int.toNat_of_nonneg (by omega), Int.toNat_of_nonneg (by omega), hl]
    omega
  have hsm : L.length < 9223372036854775808 := by
    rw [← hn]
    have : R.toNat * C.toNat ≤ 60 * 200 := Nat.mul_le_mul (by omega) (by omega)
    omega
  rw [hn, cellsF_there hsm hc, Option.bind_some, bit_back, Int.toNat_of_nonneg (by omega), Int.toNat_of_nonneg (by omega), Int.toNat_of_nonneg (by omega), Int.toNat_of_nonneg (by omega)]
/-- What is read was so written. -/
theorem readQ_back {tm : Nat} (htm : tm < 9223372036854775808) {s : Sc} {l r : List Int} (hb : ∀ x ∈ l, 0 ≤ x ∧ x ≤ 255) (h : readQ tm l = some (s, r)) : l = s.key ++ r := by
  unfold readQ at h
  simp only [Option.bind_eq_some_iff] at h
  obtain ⟨⟨n1, l1⟩, h1, ⟨n2, l2⟩, h2, ⟨n3, l3⟩, h3, ⟨n4, l4⟩, h4, ⟨n5, l5⟩, h5, ⟨t, l6⟩, h6, ⟨cs, l7⟩, h7, h8⟩ := h
  simp only at h2 h3 h4 h5 h6 h7 h8
  simp only [Option.some.injEq, Prod.mk.injEq] at h8
  obtain ⟨rfl, rfl⟩ := h8
  obtain ⟨e1, m1, t1⟩ := numM_back hb h1
  have hb1 : ∀ x ∈ l1, 0 ≤ x ∧ x ≤ 255 := fun x hx => hb x (by rw [e1]; exact List.mem_append_right _ hx)
  obtain ⟨e2, m2, t2⟩ := numM_back hb1 h2
  have hb2 : ∀ x ∈ l2, 0 ≤ x ∧ x ≤ 255 := fun x hx => hb1 x (by rw [e2]; exact List.mem_append_right _ hx)
  obtain ⟨e3, m3, t3⟩ := numM_back hb2 h3
  have hb3 : ∀ x ∈ l3, 0 ≤ x ∧ x ≤ 255 := fun x hx => hb2 x (by rw [e3]; exact List.mem_append_right _ hx)
  obtain ⟨e4, m4, t4⟩ := numM_back hb3 h4
  have hb4 : ∀ x ∈ l4, 0 ≤ x ∧ x ≤ 255 := fun x hx => hb3 x (by rw [e4]; exact List.mem_append_right _ hx)
  obtain ⟨e5, m5, t5⟩ := numM_back hb4 h5
  have hb5 : ∀ x ∈ l5, 0 ≤ x ∧ x ≤ 255 := fun x hx => hb4 x (by rw [e5]; exact List.mem_append_right _ hx)
  obtain ⟨e6, m6, t6⟩ := textQ_back hb5 h6
  have hb6 : ∀ x ∈ l6, 0 ≤ x ∧ x ≤ 255 := fun x hx => hb5 x (by rw [e6]; exact List.mem_append_right _ (List.mem_append_right _ hx))
  have hsm : n1 * n2 < 9223372036854775808 := by
    have : n1 * n2 ≤ 60 * 200 := Nat.mul_le_mul m1 m2
    omega
  obtain ⟨e7, _, _⟩ := cellsF_back hb6 hsm h7
  rw [key_eq]
  simp only
  rw [u64N_toNat (n := (n1 : Int)) (by omega) (by omega), u64N_toNat (n := (n2 : Int)) (by omega) (by omega), u64N_toNat (n := (n3 : Int)) (by omega) (by omega), u64N_toNat (n := (n4 : Int)) (by omega) (by omega), u64N_toNat (n := (t.size : Int)) (by omega) (by omega)]
  have e8 : bitN (decide (n5 = 1)) = n5 := by
    rcases (show n5 = 0 ∨ n5 = 1 by omega) with rfl | rfl <;> rfl
  rw [e8]
  simp only [List.append_assoc, Int.toNat_natCast]
  rw [e1, e2, e3, e4, e5, e6, e7]
theorem decQ_there {s : Sc} (h : s.may = true) : decQ 256 s.key = some s := by
  have h1 := readQ_there h []
  rw [List.append_nil] at h1
  unfold decQ
  rw [h1, Option.bind_some, if_pos ⟨rfl, h⟩]
theorem decQ_back {tm : Nat} (htm : tm < 9223372036854775808) {s : Sc} {l : List Int} (hb : ∀ x ∈ l, 0 ≤ x ∧ x ≤ 255) (h : decQ tm l = some s) : l = s.key ∧ s.may = true := by
  obtain ⟨⟨s', r⟩, h1, h2⟩ := Option.bind_eq_some_iff.1 h
  split at h2
  · rename_i hc
    cases h2
    have := readQ_back htm hb h1
    have hr : r = [] := hc.1
    rw [hr, List.append_nil] at this
    exact ⟨this, hc.2⟩
  · cases h2
theorem textQ_less {m m' : Nat} (l : List Int) (h : m ≤ m') (hb : ∀ x ∈ l, 0 ≤ x ∧ x ≤ 255) : textQ m l = (textQ m' l).bind fun x => if x.1.size ≤ m then some x else none := by
  unfold textQ
  rw [numM_less l h]
  rw [Option.bind_assoc, Option.bind_assoc]
  cases hn : numM m' l with
  | none => rfl
  | some n =>
    rw [Option.bind_some, Option.bind_some]
    obtain ⟨e1, _, _⟩ := numM_back hb (n := n.1) (r := n.2) hn
    by_cases h2 : n.1 ≤ n.2.length
    · have hb1 : ∀ x ∈ n.2.take n.1, 0 ≤ x ∧ x ≤ 255 := fun x hx => hb x (by rw [e1]; exact List.mem_append_right _ (List.mem_of_mem_take hx))
      have hs : (strOfNums (n.2.take n.1)).size = n.1 := by rw [← numsS_len, nums_str hb1, List.length_take]; omega
      by_cases h1 : n.1 ≤ m
      · simp [h1, h2, hs]
      · simp [h1, h2, hs]
    · by_cases h1 : n.1 ≤ m
      · simp [h1, h2]
      · simp [h1, h2]
/-- A greater title is read, and is no screen's. -/
theorem decQ_same {tm : Nat} (h : 256 ≤ tm) (htm : tm < 9223372036854775808) (l : List Int) (hb : ∀ x ∈ l, 0 ≤ x ∧ x ≤ 255) : decQ tm l = decQ 256 l := by
  cases hd : decQ 256 l with
  | some s =>
    obtain ⟨rfl, hm⟩ := decQ_back (by decide) hb hd
    have h1 := readQ_there hm []
    rw [List.append_nil] at h1
    unfold readQ at h1
    simp only [Option.bind_eq_some_iff] at h1
    obtain ⟨x1, h1, x2, h2, x3, h3, x4, h4, x5, h5, x6, h6, x7, h7, h8⟩ := h1
    have e6 : textQ tm x5.2 = some x6 := by
      unfold textQ at h6 ⊢
      obtain ⟨n, hn, hn2⟩ := Option.bind_eq_some_iff.1 h6
      rw [numM_less _ h] at hn
      obtain ⟨n', hn', hn3⟩ := Option.bind_eq_some_iff.1 hn
      split at hn3
      · cases hn3
        rw [hn', Option.bind_some]
        exact hn2
      · cases hn3
    unfold decQ readQ
    rw [h1, Option.bind_some, h2, Option.bind_some, h3, Option.bind_some, h4, Option.bind_some, h5, Option.bind_some, e6, Option.bind_some, h7, Option.bind_some]
    rw [Option.some.injEq] at h8
    rw [Option.bind_some, h8, if_pos ⟨rfl, hm⟩]
  | none =>
    cases hd2 : decQ tm l with
    | none => rfl
    | some s =>
      obtain ⟨rfl, hm⟩ := decQ_back htm hb hd2
      rw [decQ_there hm] at hd
      cases hd
theorem key_inj {s t : Sc} (hs : s.may = true) (ht : t.may = true) {m : List Int} (h : s.key = t.key ++ m) : s = t ∧ m = [] := by
  have h1 := readQ_there hs []
  rw [List.append_nil, h, readQ_there ht m] at h1
  simp only [Option.some.injEq, Prod.mk.injEq] at h1
  exact ⟨h1.1.symm, h1.2⟩
end Go.Proofs.YtmbdpcamhkdkmaaGreatDoor
