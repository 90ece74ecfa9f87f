
/-
  A blank screen.
-/
import Derived.Test.YtioabdoghophlaaDoorRep
import Derived.Handy
namespace Go.Proofs.YtioabdoghophlaaDoor
open Go.RowKit
set_option linter.unusedVariables false
set_option linter.unusedSimpArgs false

def Ce.blank : Ce := ⟨32, 0, 0, 0, 0⟩
set_option maxRecDepth 100000 in
set_option maxHeartbeats 4000000 in
theorem blank_ok (w : World) (rn cn : Nat) (h : 1 ≤ rn ∧ rn ≤ 60 ∧ 1 ≤ cn ∧ cn ≤ 200) : Calls Tryd.prog 46 #[.int .i64 rn, .int .i64 cn] w fun e w' =>
    ∃ v, e = .returned (.tuple #[scV rn cn v 0 0 false ByteArray.empty, .int .i64 0]) ∧ Own w' 29 5 v (rn * cn) (cellsV (List.replicate (rn * cn) .blank)) ∧ Chg w w' nob ∧ ∀ k, blkOf v k → w.heap.size ≤ k := by
  obtain ⟨h1, h2, h3, h4⟩ := h
  have hft : Hid (fitsF rn cn = true) := Lib.hid (by simp [fitsF]; omega)
  have hm1 : rn * cn ≤ 60 * 200 := Nat.mul_le_mul (by omega) (by omega)
  have hm2 : 1 * 1 ≤ rn * cn := Nat.mul_le_mul (by omega) (by omega)
  obtain ⟨m, hm⟩ : ∃ m, rn * cn = m := ⟨_, rfl⟩
  have hmm : (rn : Int) * (cn : Int) = (m : Int) := by rw [← hm]; simp
  have hw : IntKind.i64.wrap ((rn : Int) * (cn : Int)) = (m : Int) := by rw [hmm]; simp only [IntKind.wrap, IntKind.bits, IntKind.signed]; simp; omega
  rw [hm] at hm1 hm2 ⊢
  clear hm hmm
  go_enter Tryd.func46, Tryd.ntmps46
  go_wp2_with fail
  go_at_call 76
  refine (fits_any _ rn cn).mono ?_
  rw [hft.out]
  rintro e w1 ⟨rfl, rfl⟩
  go_wp2_with fail
  go_at_call 78
  refine (blankc_any _ 0 0 0).mono ?_
  simp only [Ce.val]
  rintro e w2 ⟨rfl, hc2⟩
  have hb2 := (Blk.new w 39 _).kept hc2 id
  have HC2 : Hid (Chg w w2 nob) := Lib.hid (((Chg.refl w nob).alloc _).trans hc2 (fun _ _ h => h))
  clear hc2
  go_wp2_with fail
  go_at_call 77
  refine (repeat_any _ .blank _ m (Rd.made w2 29 #[.int .i32 32, .int .i64 0, .int .i64 0, .int .i64 0, .int .i64 0] (size := 5) (n := 1) (c := 1) rfl (Nat.le_refl _)) (by omega) (by omega)).mono ?_
  rintro e w3 ⟨v, rfl, ho, hc3, hf3⟩
  have hb3 := (hb2.alloc (.cells #[.int .i32 32, .int .i64 0, .int .i64 0, .int .i64 0, .int .i64 0] 29)).kept hc3 id
  have HC3 : Hid (Chg w w3 nob) := Lib.hid (HC2.out.trans (((Chg.refl w2 nob).alloc _).trans hc3 (fun _ _ h => h)) (fun _ _ h => h))
  have HO := Lib.hid ho
  have HF := Lib.hid hf3
  have HB3 := Lib.hid hb3
  clear hb2 hb3 hc3 ho hf3
  obtain ⟨av, cv, rfl, _⟩ := HO.out.form
  have hb := HB3.out
  have u0 := hb.cell 0
  have u1 := hb.cell 1
  have u2 := hb.cell 2
  have u3 := hb.cell 3
  have u4 := hb.cell 4
  have u5 := hb.cell 5
  have u6 := hb.cell 6
  simp only [List.getElem?_toArray, List.getElem?_cons_zero, List.getElem?_cons_succ] at u0 u1 u2 u3 u4 u5 u6
  have f0 := hb.free 0
  have f1 := hb.free 1
  have f2 := hb.free 2
  have f3 := hb.free 3
  have f4 := hb.free 4
  have f5 := hb.free 5
  have f6 := hb.free 6
  have hbz := hb.laid [.int .i64 rn, .int .i64 cn, .slice av m cv, .int .i64 0, .int .i64 0, .bool false, .string ⟨#[]⟩] rfl
  have hcz := Chg.cells w3 w.heap.size [.int .i64 rn, .int .i64 cn, .slice av m cv, .int .i64 0, .int .i64 0, .bool false, .string ⟨#[]⟩] 0
  have hoz := HO.out.kept hcz (fun k hk e => by subst e; exact HO.out.ne hb (by decide) hk)
  have HBZ := Lib.hid hbz
  have HCZ := Lib.hid (HC3.out.trans hcz (fun i hi e => by subst e; exact absurd hi (Nat.lt_irrefl _)))
  have HOZ := Lib.hid hoz
  clear hb hbz hcz hoz
  go_wp2_with fail
  generalize hwz : World.setCell _ _ (Value.string _) = wz
  have hwz' : w3.setCells w.heap.size 0 [.int .i64 rn, .int .i64 cn, .slice av m cv, .int .i64 0, .int .i64 0, .bool false, .string ⟨#[]⟩] = wz := hwz
  rw [hwz'] at HBZ HCZ HOZ
  clear hwz hwz' u0 u1 u2 u3 u4 u5 u6 f0 f1 f2 f3 f4 f5 f6
  have hb := HBZ.out
  have u0 := hb.cell 0
  have u1 := hb.cell 1
  have u2 := hb.cell 2
  have u3 := hb.cell 3
  have u4 := hb.cell 4
  have u5 := hb.cell 5
  have u6 := hb.cell 6
  simp only [List.getElem?_toArray, List.getElem?_cons_zero, List.getElem?_cons_succ] at u0 u1 u2 u3 u4 u5 u6
  clear hb
  refine bodyPost_ret (v := .tuple #[.agg #[.int .i64 rn, .int .i64 cn, .slice av m cv, .int .i64 0, .int .i64 0, .bool false, .string ⟨#[]⟩], .int .i64 0]) (by simp [results, Tryd.results46, go_sem, u0, u1, u2, u3, u4, u5, u6]) rfl ?_
  exact ⟨_, rfl, HOZ.out, HCZ.out, fun k hk => Nat.le_trans (Nat.le_trans HC2.out.size (Nat.le_succ _)) (by have := HF.out k hk; simpa using this)⟩
set_option maxRecDepth 100000 in
set_option maxHeartbeats 4000000 in
theorem blank_no (w : World) (r c : Int) (h : ¬ (1 ≤ r ∧ r ≤ 60 ∧ 1 ≤ c ∧ c ≤ 200)) : Calls Tryd.prog 46 #[.int .i64 r, .int .i64 c] w fun e w' =>
    e = .returned (.tuple #[scV 0 0 (.slice none 0 0) 0 0 false ByteArray.empty, .int .i64 1]) ∧ Chg w w' nob := by
  have hft : Hid (fitsF r c = false) := Lib.hid (by simp [fitsF]; omega)
  clear h
  go_enter Tryd.func46, Tryd.ntmps46
  go_wp2_with fail
  go_at_call 76
  refine (fits_any _ r c).mono ?_
  rw [hft.out]
  rintro e w1 ⟨rfl, rfl⟩
  go_wp2_with fail
  refine bodyPost_ret (v := .tuple #[.agg #[.int .i64 0, .int .i64 0, .slice none 0 0, .int .i64 0, .int .i64 0, .bool false, .string ⟨#[]⟩], .int .i64 1]) (by simp [results, Tryd.results46, go_sem]) rfl ?_
  exact ⟨rfl, (Chg.refl w nob).alloc _⟩
end Go.Proofs.YtioabdoghophlaaDoor
