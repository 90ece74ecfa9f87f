/-
  Chapter 9: slices of numbers; the colour that stands in params; may a look be.
-/
import Derived.Test.YtkcpgafafbjiaaaSgr
namespace Go.Proofs.Ytkcpgafafbjiaaa
open Go.RowKit
set_option linter.unusedVariables false
set_option linter.unusedSimpArgs false

theorem u_ints : Try.prog.underlying 24 = some (.slice 3) := by kernel_rfl
theorem i_int : (Try.prog.info? 3).map (fun i => (i.zero, i.size, i.bytes)) = some (some (.int .i64 0), 1, 8) := by kernel_rfl
theorem Rd.lt {w : World} {size : Nat} {v : Value} {n : Nat} {xs : List Value} (h : Rd w size v n xs) (hx : xs ≠ []) {k : Nat} (hk : blkOf v k) : k < w.heap.size := by
  obtain ⟨ao, cap, rfl, h1, h2, h3⟩ := h
  cases xs with
  | nil => exact absurd rfl hx
  | cons u us =>
    obtain ⟨b, o, rfl, hc⟩ := h3 0 u rfl
    cases hk
    exact World.block_lt_of_cell? w _ hc

theorem take_snoc {α : Type} {l : List α} {k : Nat} (h : k < l.length) (d : α) : l.take (k + 1) = l.take k ++ [l.getD k d] := by
  rw [List.take_succ_eq_append_getElem h]; simp [List.getD, h]
/-- Where a slice of a slice begins. -/
def addS (a : Option Addr) (cap l : Nat) : Option Addr := if cap = l then a else a.map (·.add l)
theorem addS_blk {a : Option Addr} {cap l m n c d k : Nat} (h : blkOf (.slice (addS a cap l) m c) k) : blkOf (.slice a n d) k := by
  cases a with
  | none => unfold addS at h; split at h <;> cases h
  | some x =>
    unfold addS at h
    split at h
    · exact h
    · have hb : (x.add l).block = x.block := by unfold Addr.add; split <;> rfl
      simpa [blkOf, Value.ownBlock, hb] using h
theorem Rd.cut {w : World} {a : Option Addr} {len cap l m : Nat} {xs : List Value} (h : Rd w 1 (.slice a len cap) len xs) (hl : l ≤ m) (hm : m ≤ len) :
    Rd w 1 (.slice (addS a cap l) (m - l) (cap - l)) (m - l) ((xs.take m).drop l) := by
  obtain ⟨ao, cap', hv, h1, h2, h3⟩ := h
  cases hv
  refine ⟨_, _, rfl, by omega, by simp; omega, fun j u hu => ?_⟩
  have hj := (List.getElem?_eq_some_iff.1 hu).1
  simp at hj
  rw [List.getElem?_drop, List.getElem?_take_of_lt (by omega)] at hu
  obtain ⟨g, o, rfl, hc⟩ := h3 _ u hu
  by_cases hcl : cap = l
  · omega
  · refine ⟨g, o + l, by simp [addS, hcl, Addr.add_lit], by rw [Nat.add_assoc]; exact hc⟩
theorem size_int (w : World) : (sizeOf (Try.prog.elem 24)).run Try.prog w = .ok 1 w := rfl
theorem run_cut_l (a : Option Addr) (len cap : Nat) (k : IntKind) (l : Int) (w : World) (h0 : 0 ≤ l) (h2 : l ≤ len) :
    (Instr.slice 24 (.slice a len cap) (some (.int k l)) none none).run Try.prog w = .ok (.slice (addS a cap l.toNat) (len - l.toNat) (cap - l.toNat)) w := by
  rw [run_slice_l w 24 a len cap u_ints k l h0 h2, size_int]
  simp [Result.andThen, sliced, addS]
theorem run_cut_lh (a : Option Addr) (len cap : Nat) (k k' : IntKind) (l h : Int) (w : World) (h0 : 0 ≤ l) (h1 : l ≤ h) (h2 : h ≤ cap) :
    (Instr.slice 24 (.slice a len cap) (some (.int k l)) (some (.int k' h)) none).run Try.prog w = .ok (.slice (addS a cap l.toNat) (h.toNat - l.toNat) (cap - l.toNat)) w := by
  rw [run_slice_lh w 24 a len cap u_ints k k' l h h0 h1 h2, size_int]
  simp [Result.andThen, sliced, addS]
attribute [local go_sem ↓] run_cut_l run_cut_lh

/-- A number of bytes, the greatest first; none: one is no byte. -/
def accF (acc : Int) : List Int → Option Int
  | [] => some acc
  | x :: t => if x < -1 ∨ 256 ≤ x then none else accF (acc * 256 + (if x < 0 then 0 else x)) t
/-- How many params a colour takes that stands there; 0: none stands there. -/
def usedF (l : List Int) : Nat := if 2 ≤ l.length ∧ l.getD 0 0 = 5 then 2 else if 4 ≤ l.length ∧ l.getD 0 0 = 2 then 4 else 0
def givenF (l : List Int) : Int × Nat × Bool :=
  if usedF l = 0 then (0, 0, false) else match accF 0 ((l.take (usedF l)).drop 1) with
    | none => (0, usedF l, false)
    | some all => (if usedF l = 2 then 1 + all else 16777216 + all, usedF l, true)
theorem accF_append (acc : Int) : ∀ (a b : List Int), accF acc (a ++ b) = (accF acc a).bind fun x => accF x b
  | [], b => rfl
  | x :: t, b => by
    simp only [List.cons_append, accF]
    split
    · rfl
    · exact accF_append _ t b
theorem accF_b : ∀ (l : List Int) (acc z : Int) (c : Int), 0 ≤ acc → acc < c → accF acc l = some z → 0 ≤ z ∧ z < c * 256 ^ l.length
  | [], acc, z, c, h0, h1, h => by cases h; simp; exact ⟨h0, h1⟩
  | x :: t, acc, z, c, h0, h1, h => by
    simp only [accF] at h
    split at h
    · cases h
    · rename_i hx
      have h2 := accF_b t (acc * 256 + if x < 0 then 0 else x) z (c * 256) (by split <;> omega) (by split <;> omega) h
      refine ⟨h2.1, ?_⟩
      have e : c * 256 ^ (x :: t).length = c * 256 * 256 ^ t.length := by rw [List.length_cons, Int.pow_succ, Int.mul_comm (256 ^ t.length), Int.mul_assoc]
      rw [e]; exact h2.2


set_option maxRecDepth 100000 in
set_option maxHeartbeats 8000000 in
theorem given_any (w : World) (va : Value) (l : List Int) (ha : Rd w 1 va l.length (intI l)) (hb : ∀ x ∈ l, -9223372036854775808 ≤ x ∧ x ≤ 9223372036854775807) (hl : l.length ≤ 1000000) :
    Calls Try.prog 17 #[va] w fun e w' => e = .returned (.tuple #[.int .i64 (givenF l).1, .int .i64 (givenF l).2.1, .bool (givenF l).2.2]) ∧ w' = w := by
  obtain ⟨ao, cap, rfl, hcap, _⟩ := ha.form
  have HA := Lib.hid ha
  have HB := Lib.hid hb
  clear ha hb
  obtain ⟨u, hu⟩ : ∃ u, usedF l = u := ⟨_, rfl⟩
  have HU := Lib.hid hu
  by_cases hu0 : u = 0
  · have hg : givenF l = (0, 0, false) := by unfold givenF; rw [hu, if_pos hu0]
    rw [hg]
    clear hg
    have hcase : l.length < 2 ∨ (2 ≤ l.length ∧ l.getD 0 0 ≠ 5 ∧ (l.length < 4 ∨ l.getD 0 0 ≠ 2)) := by
      unfold usedF at hu
      split at hu
      · omega
      · split at hu
        · omega
        · omega
    clear hu
    rcases hcase with h | ⟨h, h5, h2⟩
    · have n1 : ¬ (2 : Int) ≤ (l.length : Int) := by omega
      have n2 : ¬ (4 : Int) ≤ (l.length : Int) := by omega
      go_enter Try.func17, Try.ntmps17
      go_wp2
      go_ret3
      exact ⟨rfl, rfl⟩
    · obtain ⟨g, o, rfl, hc⟩ := HA.out.cell (j := 0) (u := .int .i64 (l.getD 0 0)) (by simp [intI, List.getD, show 0 < l.length by omega])
      simp only [Nat.add_zero] at hc
      generalize l.getD 0 0 = x at *
      have n1 : (2 : Int) ≤ (l.length : Int) := by omega
      have n3 : (0 : Int) < (l.length : Int) := by omega
      have n5 : (x == 5) = false := by simp; omega
      rcases h2 with h2 | h2
      · have n2 : ¬ (4 : Int) ≤ (l.length : Int) := by omega
        go_enter Try.func17, Try.ntmps17
        go_wp2
        go_ret3
        exact ⟨rfl, rfl⟩
      · have n4 : (x == 2) = false := by simp; omega
        go_enter Try.func17, Try.ntmps17
        go_wp2
        all_goals go_ret3
        all_goals exact ⟨rfl, rfl⟩
  · have hcase : (u = 2 ∧ 2 ≤ l.length ∧ l.getD 0 0 = 5) ∨ (u = 4 ∧ 4 ≤ l.length ∧ l.getD 0 0 = 2) := by
      unfold usedF at hu
      split at hu
      · exact .inl ⟨hu.symm, by omega, by omega⟩
      · split at hu
        · exact .inr ⟨hu.symm, by omega, by omega⟩
        · omega
    obtain ⟨g, o, rfl, hc⟩ := HA.out.cell (j := 0) (u := .int .i64 (l.getD 0 0)) (by simp [intI, List.getD, show 0 < l.length by omega])
    simp only [Nat.add_zero] at hc
    have n3 : (0 : Int) < (l.length : Int) := by omega
    rcases hcase with ⟨rfl, h2, h5⟩ | ⟨rfl, h4, h5⟩
    · rw [h5] at hc
      have n1 : (2 : Int) ≤ (l.length : Int) := by omega
      clear h5 hu0
      obtain ⟨S, hS⟩ : ∃ S, (l.take 2).drop 1 = S := ⟨_, rfl⟩
      have hSl : S.length = 1 := by rw [← hS, List.length_drop, List.length_take]; omega
      have hRS : Rd w 1 (.slice (addS (some ⟨g, o, none⟩) cap 1) 1 (cap - 1)) 1 (intI S) := by
        have h := HA.out.cut (l := 1) (m := 2) (by omega) (by omega)
        rw [← hS]
        simpa [intI, List.map_drop, List.map_take] using h
      have hSb : ∀ j, j < 1 → ∃ b' o', addS (some ⟨g, o, none⟩) cap 1 = some ⟨b', o', none⟩ ∧ w.cell? ⟨b', o' + j, none⟩ = some (.int .i64 (S.getD j 0)) := fun j hj => hRS.cell (j := j) (by simp [intI, List.getD, show j < S.length by omega])
      have hgv : givenF l = (match accF 0 S with | none => (0, 2, false) | some all => (1 + all, 2, true)) := by unfold givenF; rw [hu, if_neg (by decide), hS]; simp
      rw [hgv]
      have HS := Lib.hid hSb
      have HSL := Lib.hid hSl
      clear hSb hRS hS hgv hu hSl
      have hc1 : (1 : Int) ≤ (2 : Int) := by omega
      have hc2 : (2 : Int) ≤ (cap : Int) := by omega
      obtain ⟨gS, oS, hS0, _⟩ := HS.out 0 (by omega)
      have HS2 : Hid (∀ j, j < 1 → w.cell? ⟨gS, oS + j, none⟩ = some (.int .i64 (S.getD j 0))) := Lib.hid fun j hj => by obtain ⟨b', o', h1, h2⟩ := HS.out j hj; rw [hS0] at h1; cases h1; exact h2
      clear HS
      obtain ⟨res, hres⟩ : ∃ res, accF 0 S = res := ⟨_, rfl⟩
      rw [hres]
      have HRES := Lib.hid hres
      clear hres
      go_enter Try.func17, Try.ntmps17
      go_wp2_with fail
      go_loopw [6, 33] (fun z i wr => ∃ k : Nat, ∃ y : Int, k ≤ 1 ∧ i = .int .i64 k ∧ z = .int .i64 y ∧ Hid (accF 0 (S.take k) = some y) ∧ wr = w) (fun _ i _ => 1 - (intOf i).toNat)
      case atStart => exact ⟨0, 0, by omega, rfl, rfl, rfl, rfl⟩
      case round =>
        obtain ⟨k, y, hk, rfl, rfl, HY, rfl⟩ := hrel
        have hyb := accF_b (S.take k) 0 y 1 (by omega) (by omega) HY.out
        have hyl : (S.take k).length = k := by rw [List.length_take, HSL.out]; omega
        rw [hyl] at hyb
        have hyc : 0 ≤ y ∧ y < 16777216 := by
          refine ⟨hyb.1, Int.lt_of_lt_of_le hyb.2 ?_⟩
          rcases (show k = 0 ∨ k = 1 ∨ k = 2 ∨ k = 3 by omega) with rfl | rfl | rfl | rfl <;> decide
        clear hyb
        by_cases hkl : k < 1
        · have hki : (k : Int) < (1 : Int) := by omega
          have hcx := HS2.out k hkl
          have hsn : accF 0 (S.take (k + 1)) = (if S.getD k 0 < -1 ∨ 256 ≤ S.getD k 0 then none else some (y * 256 + if S.getD k 0 < 0 then 0 else S.getD k 0)) := by
            rw [take_snoc (by rw [HSL.out]; exact hkl) (0 : Int), accF_append, HY.out]; simp [accF]
          have hst : S.getD k 0 < -1 ∨ 256 ≤ S.getD k 0 → res = none := fun h => by
            rw [if_pos h] at hsn
            have e : S = S.take (k + 1) ++ S.drop (k + 1) := (List.take_append_drop _ _).symm
            rw [← HRES.out, e, accF_append, hsn]; rfl
          generalize S.getD k 0 = x' at *
          have HSN := Lib.hid hsn
          have HST := Lib.hid hst
          clear hsn hst
          rcases (show x' < -1 ∨ 256 ≤ x' ∨ (x' < 0 ∧ -1 ≤ x') ∨ (0 ≤ x' ∧ x' < 256) by omega) with q | q | ⟨q, q'⟩ | ⟨q, q'⟩
          · obtain rfl := HST.out (.inl q)
            go_wp2
            all_goals go_ret3
            all_goals exact ⟨rfl, rfl⟩
          · obtain rfl := HST.out (.inr q)
            have q2 : ¬ x' < -1 := by omega
            go_wp2
            all_goals go_ret3
            all_goals exact ⟨rfl, rfl⟩
          · have q2 : ¬ 256 ≤ x' := by omega
            have HN : Hid (accF 0 (S.take (k + 1)) = some (y * 256)) := Lib.hid (by rw [HSN.out, if_neg (by omega), if_pos q]; simp)
            go_wp2
            go_roundw
            case rel => exact ⟨k + 1, y * 256, by omega, by go_num, by first | rfl | (congr 1; omega), HN, by first | rfl | trivial⟩
            case measure => simp [intOf]; omega
          · have q2 : ¬ 256 ≤ x' := by omega
            have q3 : ¬ x' < -1 := by omega
            have HN : Hid (accF 0 (S.take (k + 1)) = some (y * 256 + x')) := Lib.hid (by rw [HSN.out, if_neg (by omega), if_neg (by omega)])
            go_wp2
            go_roundw
            case rel => exact ⟨k + 1, y * 256 + x', by omega, by go_num, by first | rfl | (congr 1; omega), HN, by first | rfl | trivial⟩
            case measure => simp [intOf]; omega
        · obtain rfl : k = 1 := by omega
          have hr : res = some y := by rw [← HRES.out, ← HY.out, List.take_of_length_le (by rw [HSL.out]; exact Nat.le_refl _)]
          subst hr
          go_wp2
          all_goals go_ret3
          all_goals exact ⟨rfl, rfl⟩
    · rw [h5] at hc
      have n1 : (2 : Int) ≤ (l.length : Int) := by omega
      have n2 : (4 : Int) ≤ (l.length : Int) := by omega
      clear h5 hu0
      obtain ⟨S, hS⟩ : ∃ S, (l.take 4).drop 1 = S := ⟨_, rfl⟩
      have hSl : S.length = 3 := by rw [← hS, List.length_drop, List.length_take]; omega
      have hRS : Rd w 1 (.slice (addS (some ⟨g, o, none⟩) cap 1) 3 (cap - 1)) 3 (intI S) := by
        have h := HA.out.cut (l := 1) (m := 4) (by omega) (by omega)
        rw [← hS]
        simpa [intI, List.map_drop, List.map_take] using h
      have hSb : ∀ j, j < 3 → ∃ b' o', addS (some ⟨g, o, none⟩) cap 1 = some ⟨b', o', none⟩ ∧ w.cell? ⟨b', o' + j, none⟩ = some (.int .i64 (S.getD j 0)) := fun j hj => hRS.cell (j := j) (by simp [intI, List.getD, show j < S.length by omega])
      have hgv : givenF l = (match accF 0 S with | none => (0, 4, false) | some all => (16777216 + all, 4, true)) := by unfold givenF; rw [hu, if_neg (by decide), hS]; simp
      rw [hgv]
      have HS := Lib.hid hSb
      have HSL := Lib.hid hSl
      clear hSb hRS hS hgv hu hSl
      have hc1 : (1 : Int) ≤ (4 : Int) := by omega
      have hc2 : (4 : Int) ≤ (cap : Int) := by omega
      obtain ⟨gS, oS, hS0, _⟩ := HS.out 0 (by omega)
      have HS2 : Hid (∀ j, j < 3 → w.cell? ⟨gS, oS + j, none⟩ = some (.int .i64 (S.getD j 0))) := Lib.hid fun j hj => by obtain ⟨b', o', h1, h2⟩ := HS.out j hj; rw [hS0] at h1; cases h1; exact h2
      clear HS
      obtain ⟨res, hres⟩ : ∃ res, accF 0 S = res := ⟨_, rfl⟩
      rw [hres]
      have HRES := Lib.hid hres
      clear hres
      go_enter Try.func17, Try.ntmps17
      go_wp2_with fail
      go_loopw [6, 33] (fun z i wr => ∃ k : Nat, ∃ y : Int, k ≤ 3 ∧ i = .int .i64 k ∧ z = .int .i64 y ∧ Hid (accF 0 (S.take k) = some y) ∧ wr = w) (fun _ i _ => 3 - (intOf i).toNat)
      case atStart => exact ⟨0, 0, by omega, rfl, rfl, rfl, rfl⟩
      case round =>
        obtain ⟨k, y, hk, rfl, rfl, HY, rfl⟩ := hrel
        have hyb := accF_b (S.take k) 0 y 1 (by omega) (by omega) HY.out
        have hyl : (S.take k).length = k := by rw [List.length_take, HSL.out]; omega
        rw [hyl] at hyb
        have hyc : 0 ≤ y ∧ y < 16777216 := by
          refine ⟨hyb.1, Int.lt_of_lt_of_le hyb.2 ?_⟩
          rcases (show k = 0 ∨ k = 1 ∨ k = 2 ∨ k = 3 by omega) with rfl | rfl | rfl | rfl <;> decide
        clear hyb
        by_cases hkl : k < 3
        · have hki : (k : Int) < (3 : Int) := by omega
          have hcx := HS2.out k hkl
          have hsn : accF 0 (S.take (k + 1)) = (if S.getD k 0 < -1 ∨ 256 ≤ S.getD k 0 then none else some (y * 256 + if S.getD k 0 < 0 then 0 else S.getD k 0)) := by
            rw [take_snoc (by rw [HSL.out]; exact hkl) (0 : Int), accF_append, HY.out]; simp [accF]
          have hst : S.getD k 0 < -1 ∨ 256 ≤ S.getD k 0 → res = none := fun h => by
            rw [if_pos h] at hsn
            have e : S = S.take (k + 1) ++ S.drop (k + 1) := (List.take_append_drop _ _).symm
            rw [← HRES.out, e, accF_append, hsn]; rfl
          generalize S.getD k 0 = x' at *
          have HSN := Lib.hid hsn
          have HST := Lib.hid hst
          clear hsn hst
          rcases (show x' < -1 ∨ 256 ≤ x' ∨ (x' < 0 ∧ -1 ≤ x') ∨ (0 ≤ x' ∧ x' < 256) by omega) with q | q | ⟨q, q'⟩ | ⟨q, q'⟩
          · obtain rfl := HST.out (.inl q)
            go_wp2
            all_goals go_ret3
            all_goals exact ⟨rfl, rfl⟩
          · obtain rfl := HST.out (.inr q)
            have q2 : ¬ x' < -1 := by omega
            go_wp2
            all_goals go_ret3
            all_goals exact ⟨rfl, rfl⟩
          · have q2 : ¬ 256 ≤ x' := by omega
            have HN : Hid (accF 0 (S.take (k + 1)) = some (y * 256)) := Lib.hid (by rw [HSN.out, if_neg (by omega), if_pos q]; simp)
            go_wp2
            go_roundw
            case rel => exact ⟨k + 1, y * 256, by omega, by go_num, by first | rfl | (congr 1; omega), HN, by first | rfl | trivial⟩
            case measure => simp [intOf]; omega
          · have q2 : ¬ 256 ≤ x' := by omega
            have q3 : ¬ x' < -1 := by omega
            have HN : Hid (accF 0 (S.take (k + 1)) = some (y * 256 + x')) := Lib.hid (by rw [HSN.out, if_neg (by omega), if_neg (by omega)])
            go_wp2
            go_roundw
            case rel => exact ⟨k + 1, y * 256 + x', by omega, by go_num, by first | rfl | (congr 1; omega), HN, by first | rfl | trivial⟩
            case measure => simp [intOf]; omega
        · obtain rfl : k = 3 := by omega
          have hr : res = some y := by rw [← HRES.out, ← HY.out, List.take_of_length_le (by rw [HSL.out]; exact Nat.le_refl _)]
          subst hr
          go_wp2
          all_goals go_ret3
          all_goals exact ⟨rfl, rfl⟩
end Go.Proofs.Ytkcpgafafbjiaaa
