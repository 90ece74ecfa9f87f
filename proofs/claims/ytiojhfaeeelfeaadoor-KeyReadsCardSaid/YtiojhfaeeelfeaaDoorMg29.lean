/-
  A blank screen.
  Chapter 13: first; FewScreen.
  KeyReads: any bytes: the screen, or none, as the document's; cells from a reader.
  An argument that is a slice of structs whose fields are whole numbers: its cells.
-/
import Derived.Test.YtiojhfaeeelfeaaDoorMg23
import Derived.Handy
import Derived.Test.YtiojhfaeeelfeaaDoorMg19
import Derived.Test.YtiojhfaeeelfeaaDoorDdecM
import Derived.Test.YtiojhfaeeelfeaaDoorK
import Derived.Deep.Slices
import Derived.Deep.Fields
import Derived.ChangeSame
namespace Go.Proofs.YtiojhfaeeelfeaaDoor
open Go.RowKit
set_option linter.unusedVariables false
set_option linter.unusedSimpArgs false

def Ce.blank : Ce := ⟨32, 0, 0, 0, 0⟩
set_option maxRecDepth 100000 in
set_option maxHeartbeats 4000000 in
theorem blank_ok (w : World) (rn cn : Nat) (h : 1 ≤ rn ∧ rn ≤ 60 ∧ 1 ≤ cn ∧ cn ≤ 200) : Calls Tryd.prog 27 #[.int .i64 rn, .int .i64 cn] w fun e w' =>
    ∃ v, e = .returned (.tuple #[scV rn cn v 0 0 false ByteArray.empty, .int .i64 0]) ∧ Own w' 54 5 v (rn * cn) (cellsV (List.replicate (rn * cn) .blank)) ∧ Chg w w' nob ∧ ∀ k, blkOf v k → w.heap.size ≤ k := by
  obtain ⟨h1, h2, h3, h4⟩ := h
  have hft : Hid (fitsF rn cn = true) := Lib.hid (by simp [fitsF]; omega)
  have hm1 : rn * cn ≤ 60 * 200 := Nat.mul_le_mul (by omega) (by omega)
  have hm2 : 1 * 1 ≤ rn * cn := Nat.mul_le_mul (by omega) (by omega)
  obtain ⟨m, hm⟩ : ∃ m, rn * cn = m := ⟨_, rfl⟩
  have hmm : (rn : Int) * (cn : Int) = (m : Int) := by rw [← hm]; simp
  have hw : IntKind.i64.wrap ((rn : Int) * (cn : Int)) = (m : Int) := by rw [hmm]; simp only [IntKind.wrap, IntKind.bits, IntKind.signed]; simp; omega
  rw [hm] at hm1 hm2 ⊢
  clear hm hmm
  go_enter Tryd.func27, Tryd.ntmps27
  go_wp2_with fail
  go_at_call 52
  refine (fits_any _ rn cn).mono ?_
  rw [hft.out]
  rintro e w1 ⟨rfl, rfl⟩
  go_wp2_with fail
  go_at_call 54
  refine (blankc_any _ 0 0 0).mono ?_
  simp only [Ce.val]
  rintro e w2 ⟨rfl, hc2⟩
  have hb2 := (Blk.new w 26 _).kept hc2 id
  have HC2 : Hid (Chg w w2 nob) := Lib.hid (((Chg.refl w nob).alloc _).trans hc2 (fun _ _ h => h))
  clear hc2
  go_wp2_with fail
  go_at_call 53
  refine (repeat_any _ .blank _ m (Rd.made w2 54 #[.int .i32 32, .int .i64 0, .int .i64 0, .int .i64 0, .int .i64 0] (size := 5) (n := 1) (c := 1) rfl (Nat.le_refl _)) (by omega) (by omega)).mono ?_
  rintro e w3 ⟨v, rfl, ho, hc3, hf3⟩
  have hb3 := (hb2.alloc (.cells #[.int .i32 32, .int .i64 0, .int .i64 0, .int .i64 0, .int .i64 0] 54)).kept hc3 id
  have HC3 : Hid (Chg w w3 nob) := Lib.hid (HC2.out.trans (((Chg.refl w2 nob).alloc _).trans hc3 (fun _ _ h => h)) (fun _ _ h => h))
  have HO := Lib.hid ho
  have HF := Lib.hid hf3
  have HB3 := Lib.hid hb3
  clear hb2 hb3 hc3 ho hf3
  obtain ⟨av, cv, rfl, _⟩ := HO.out.form
  have hb := HB3.out
  have u0 := hb.cell 0
  have u1 := hb.cell 1
  have u2 := hb.cell 2
  have u3 := hb.cell 3
  have u4 := hb.cell 4
  have u5 := hb.cell 5
  have u6 := hb.cell 6
  simp only [List.getElem?_toArray, List.getElem?_cons_zero, List.getElem?_cons_succ] at u0 u1 u2 u3 u4 u5 u6
  have f0 := hb.free 0
  have f1 := hb.free 1
  have f2 := hb.free 2
  have f3 := hb.free 3
  have f4 := hb.free 4
  have f5 := hb.free 5
  have f6 := hb.free 6
  have hbz := hb.laid [.int .i64 rn, .int .i64 cn, .slice av m cv, .int .i64 0, .int .i64 0, .bool false, .string ⟨#[]⟩] rfl
  have hcz := Chg.cells w3 w.heap.size [.int .i64 rn, .int .i64 cn, .slice av m cv, .int .i64 0, .int .i64 0, .bool false, .string ⟨#[]⟩] 0
  have hoz := HO.out.kept hcz (fun k hk e => by subst e; exact HO.out.ne hb (by decide) hk)
  have HBZ := Lib.hid hbz
  have HCZ := Lib.hid (HC3.out.trans hcz (fun i hi e => by subst e; exact absurd hi (Nat.lt_irrefl _)))
  have HOZ := Lib.hid hoz
  clear hb hbz hcz hoz
  go_wp2_with fail
  generalize hwz : World.setCell _ _ (Value.string _) = wz
  have hwz' : w3.setCells w.heap.size 0 [.int .i64 rn, .int .i64 cn, .slice av m cv, .int .i64 0, .int .i64 0, .bool false, .string ⟨#[]⟩] = wz := hwz
  rw [hwz'] at HBZ HCZ HOZ
  clear hwz hwz' u0 u1 u2 u3 u4 u5 u6 f0 f1 f2 f3 f4 f5 f6
  have hb := HBZ.out
  have u0 := hb.cell 0
  have u1 := hb.cell 1
  have u2 := hb.cell 2
  have u3 := hb.cell 3
  have u4 := hb.cell 4
  have u5 := hb.cell 5
  have u6 := hb.cell 6
  simp only [List.getElem?_toArray, List.getElem?_cons_zero, List.getElem?_cons_succ] at u0 u1 u2 u3 u4 u5 u6
  clear hb
  refine bodyPost_ret (v := .tuple #[.agg #[.int .i64 rn, .int .i64 cn, .slice av m cv, .int .i64 0, .int .i64 0, .bool false, .string ⟨#[]⟩], .int .i64 0]) (by simp [results, Tryd.results27, go_sem, u0, u1, u2, u3, u4, u5, u6]) rfl ?_
  exact ⟨_, rfl, HOZ.out, HCZ.out, fun k hk => Nat.le_trans (Nat.le_trans HC2.out.size (Nat.le_succ _)) (by have := HF.out k hk; simpa using this)⟩
set_option maxRecDepth 100000 in
set_option maxHeartbeats 4000000 in
theorem blank_no (w : World) (r c : Int) (h : ¬ (1 ≤ r ∧ r ≤ 60 ∧ 1 ≤ c ∧ c ≤ 200)) : Calls Tryd.prog 27 #[.int .i64 r, .int .i64 c] w fun e w' =>
    e = .returned (.tuple #[scV 0 0 (.slice none 0 0) 0 0 false ByteArray.empty, .int .i64 1]) ∧ Chg w w' nob := by
  have hft : Hid (fitsF r c = false) := Lib.hid (by simp [fitsF]; omega)
  clear h
  go_enter Tryd.func27, Tryd.ntmps27
  go_wp2_with fail
  go_at_call 52
  refine (fits_any _ r c).mono ?_
  rw [hft.out]
  rintro e w1 ⟨rfl, rfl⟩
  go_wp2_with fail
  refine bodyPost_ret (v := .tuple #[.agg #[.int .i64 0, .int .i64 0, .slice none 0 0, .int .i64 0, .int .i64 0, .bool false, .string ⟨#[]⟩], .int .i64 1]) (by simp [results, Tryd.results27, go_sem]) rfl ?_
  exact ⟨rfl, (Chg.refl w nob).alloc _⟩
end Go.Proofs.YtiojhfaeeelfeaaDoor

namespace Go.Proofs.YtiojhfaeeelfeaaDoor
open Go.RowKit
set_option linter.unusedVariables false
set_option linter.unusedSimpArgs false

theorem varL_small {n : Nat} (h : n < 128) : varL n = [(n : Int)] := varL_lt h
theorem title_empty : titleF ByteArray.empty = true := by decide
theorem may_first : mayS 1 2 (List.replicate 2 .blank) 0 0 ByteArray.empty = true := by
  unfold mayS
  rw [title_empty]
  decide
theorem numsS_empty : numsS ByteArray.empty = [] := rfl
theorem key_first : keyL 1 2 (List.replicate 2 .blank) 0 0 false ByteArray.empty = [1, 2, 0, 0, 0, 0, 2, 32, 0, 0, 0, 0] := by
  have hr : runsL (List.replicate 2 Ce.blank) = varsL (ceN 2 .blank) := by
    show runsL [Ce.blank, Ce.blank] = _
    rw [runsL]
    have e : runLen Ce.blank [Ce.blank] = 1 := by decide
    rw [e]
    simp [runsL]
  rw [keyL, hr, numsS_empty]
  have e1 : headN 1 2 0 0 false ByteArray.empty = [1, 2, 0, 0, 0, 0] := by decide
  have e2 : ceN 2 Ce.blank = [2, 32, 0, 0, 0, 0] := by decide
  rw [e1, e2]
  simp [varsL, varL_small]
set_option maxRecDepth 100000 in
set_option maxHeartbeats 4000000 in
theorem kfirst_any (w : World) (ht : Tab w) : Calls Tryd.prog 8 #[] w fun e w' => e = .returned (.bool true) ∧ Chg w w' nob := by
  have HT := Lib.hid ht
  clear ht
  go_enter Tryd.func8, Tryd.ntmps8
  go_wp2_with fail
  go_at_call 27
  refine (blank_ok w 1 2 (by decide)).mono ?_
  rintro e w1 ⟨v, rfl, ho, hc, hf⟩
  have HO := Lib.hid ho
  have HC1 := Lib.hid hc
  clear ho hc hf
  obtain ⟨av, cv, rfl, _⟩ := HO.out.form
  go_wp2_with fail
  go_at_call 19
  have hc2 := (Chg.refl w1 nob).alloc (.cells #[.int .i64 1, .int .i64 2, .slice av (1 * 2) cv, .int .i64 0, .int .i64 0, .bool false, .string ByteArray.empty] 26)
  refine (kenc_any _ 1 2 0 0 false ByteArray.empty _ (List.replicate 2 .blank) ((HO.out.rd).kept hc2 (fun _ _ => id)) (by decide) (by decide) (HT.out.kept (HC1.out.trans hc2 (fun _ _ h => h)))).mono ?_
  rw [may_first, if_pos rfl, key_first]
  rintro e w2 ⟨v2, rfl, hb2⟩
  have HC2 : Hid (Chg w w2 nob) := Lib.hid ((HC1.out.trans hc2 (fun _ _ h => h)).trans hb2.2.1 (fun _ _ h => h))
  have HB := Lib.hid hb2.1
  clear hb2 hc2
  obtain ⟨a2, c2, rfl, _⟩ := HB.out.form
  go_wp2_with fail
  go_at_call 22
  refine (bytes_eq _ _ _ [1, 2, 0, 0, 0, 0, 2, 32, 0, 0, 0, 0] [1, 2, 0, 0, 0, 0, 2, 32, 0, 0, 0, 0] (HB.out.rd.kept ((Chg.refl w2 nob).alloc _) (fun _ _ => id)) (Rd.made w2 5 #[.int .u8 1, .int .u8 2, .int .u8 0, .int .u8 0, .int .u8 0, .int .u8 0, .int .u8 2, .int .u8 32, .int .u8 0, .int .u8 0, .int .u8 0, .int .u8 0] (size := 1) (n := 12) (c := 12) rfl (Nat.le_refl _)) (by decide) (by decide)).mono ?_
  rintro e w3 ⟨rfl, rfl⟩
  go_wp2
  go_ret
  exact ⟨rfl, HC2.out.alloc _⟩
set_option maxRecDepth 100000 in
set_option maxHeartbeats 4000000 in
theorem few_any (w : World) (r c y x : Int) (h : Bool) (t : ByteArray) (va : Value) (n : Nat) (hn : ∃ a cap, va = .slice a n cap) :
    Calls Tryd.prog 18 #[scV r c va y x h t] w fun e w' => e = .returned (.bool (decide (n ≤ 3000) && decide (t.size ≤ 3000))) ∧ Chg w w' nob := by
  obtain ⟨a, cap, rfl⟩ := hn
  obtain ⟨b1, h1⟩ : ∃ b, decide (n ≤ 3000) = b := ⟨_, rfl⟩
  obtain ⟨b2, h2⟩ : ∃ b, decide (t.size ≤ 3000) = b := ⟨_, rfl⟩
  rw [h1, h2]
  go_enter Tryd.func18, Tryd.ntmps18
  rcases (show (n ≤ 3000 ∧ t.size ≤ 3000) ∨ (n ≤ 3000 ∧ 3000 < t.size) ∨ 3000 < n by omega) with ⟨h3, h4⟩ | ⟨h3, h4⟩ | h3
  · obtain rfl : b1 = true := by rw [← h1]; simp [h3]
    obtain rfl : b2 = true := by rw [← h2]; simp [h4]
    have i1 : (n : Int) ≤ 3000 := by omega
    have i2 : (t.size : Int) ≤ 3000 := by omega
    clear h1 h2
    go_wp2
    go_ret
    exact ⟨rfl, (Chg.refl w nob).alloc _⟩
  · obtain rfl : b1 = true := by rw [← h1]; simp [h3]
    obtain rfl : b2 = false := by rw [← h2]; simp; omega
    have i1 : (n : Int) ≤ 3000 := by omega
    have i2 : ¬ (t.size : Int) ≤ 3000 := by omega
    clear h1 h2
    go_wp2
    go_ret
    exact ⟨rfl, (Chg.refl w nob).alloc _⟩
  · obtain rfl : b1 = false := by rw [← h1]; simp; omega
    have i1 : ¬ (n : Int) ≤ 3000 := by omega
    clear h1 h2
    go_wp2
    go_ret
    exact ⟨rfl, (Chg.refl w nob).alloc _⟩
end Go.Proofs.YtiojhfaeeelfeaaDoor

namespace Go.Proofs.YtiojhfaeeelfeaaDoor
open Go.RowKit
set_option linter.unusedVariables false
set_option linter.unusedSimpArgs false

def decS (o : Option Sc) : Sc := o.getD ⟨0, 0, [], 0, 0, false, ⟨#[]⟩⟩
def decE (o : Option Sc) : Int := if o.isSome then 0 else 2
theorem decS_len {B : List Int} {tm : Nat} (htm : tm < 9223372036854775808) (hb : ∀ x ∈ B, 0 ≤ x ∧ x ≤ 255) : (decS (decQ tm B)).l.length ≤ 12000 := by
  cases hd : decQ tm B with
  | none => exact Nat.zero_le _
  | some s =>
    obtain ⟨_, hm⟩ := decQ_back htm hb hd
    obtain ⟨⟨_, q1⟩, ⟨_, q2⟩, ⟨_, _⟩, ⟨_, _⟩, q3, _, q4⟩ := Sc.may_b hm
    have : s.r * s.c ≤ 60 * 200 := Int.mul_le_mul q1 q2 (by omega) (by omega)
    show s.l.length ≤ 12000
    omega
theorem kdec_u (w : World) (va : Value) (B : List Int) (hb : By w va B) (hl : B.length ≤ 1000000) (ht : Tab w) (o : Option Sc) (ho : decQ 256 B = o) :
    Calls Tryd.prog 9 #[va] w fun e' w' => ∃ a n, e' = .returned (.tuple #[scV (decS o).r (decS o).c (.slice a (decS o).l.length n) (decS o).y (decS o).x (decS o).h (decS o).t, .int .i64 (decE o)]) ∧ Cs w w' (.slice a (decS o).l.length n) (decS o).l ∧ Chg w w' nob := by
  refine (kdec_any w va B hb hl ht).mono ?_
  rintro e' w' ⟨hc, ⟨s, v, hd, rfl, hcs⟩ | ⟨hd, rfl⟩⟩
  · rw [ho] at hd
    subst hd
    obtain ⟨a, n, rfl, _⟩ := hcs.form
    exact ⟨a, n, rfl, hcs, hc⟩
  · rw [ho] at hd
    subst hd
    exact ⟨none, 0, rfl, Cs.nil _ _, hc⟩
theorem ddec_u (w : World) (va : Value) (B : List Int) (hb : By w va B) (hl : B.length ≤ 1000000) (ht : Tab w) (o : Option Sc) (ho : decQ 256 B = o) :
    Calls Tryd.prog 10 #[va] w fun e' w' => ∃ a n, e' = .returned (.tuple #[scV (decS o).r (decS o).c (.slice a (decS o).l.length n) (decS o).y (decS o).x (decS o).h (decS o).t, .int .i64 (decE o)]) ∧ Cs w w' (.slice a (decS o).l.length n) (decS o).l ∧ Chg w w' nob := by
  rw [← decQ_same (tm := 1000) (by decide) (by decide) B hb.byte] at ho
  refine (ddec_any w va B hb hl ht).mono ?_
  rintro e' w' ⟨hc, ⟨s, v, hd, rfl, hcs⟩ | ⟨hd, rfl⟩⟩
  · rw [ho] at hd
    subst hd
    obtain ⟨a, n, rfl, _⟩ := hcs.form
    exact ⟨a, n, rfl, hcs, hc⟩
  · rw [ho] at hd
    subst hd
    exact ⟨none, 0, rfl, Cs.nil _ _, hc⟩
/-- The cells that come of a reading, if so many may be. -/
def cellsN (n : Int) (B : List Int) : Option (List Ce × List Int) := if 0 ≤ n ∧ n ≤ 12000 then cellsF n.toNat B else none
def resC (o : Option (List Ce × List Int)) : List Ce := (o.map (·.1)).getD []
theorem kcells_u (w : World) (g : Nat) (u : Value) (B : List Int) (h : RdrR w g u B 0 0) (n : Int) (ht : Tab w) (o : Option (List Ce × List Int)) (ho : cellsN n B = o) :
    Calls Tryd.prog 13 #[ptr g, .int .i64 n] w fun e' w' => ∃ a c q er, e' = .returned (.tuple #[.slice a (resC o).length c, .bool o.isSome]) ∧ Cs w w' (.slice a (resC o).length c) (resC o) ∧ RdrR w' g u B q er ∧ Chg w w' (fun k => k = g) ∧ ∀ l r, o = some (l, r) → r = B.drop q := by
  refine (kcellsread_any w g u B 0 0 h n ht).mono ?_
  rintro e' w' ⟨hc, q, er, hr, ⟨h1, h2, h3, h4, v, cs, rfl, h5, h6⟩ | ⟨rfl, h1⟩⟩
  · have : o = some (cs, B.drop q) := by rw [← ho, cellsN, if_pos ⟨h1, h2⟩]; simpa using h6
    subst this
    obtain ⟨a, c, rfl, _⟩ := h5.form
    exact ⟨a, c, q, er, rfl, h5, hr, hc, fun l r h => by cases h; rfl⟩
  · have : o = none := by
      rw [← ho, cellsN]
      split
      · rcases h1 with h | h | h | h
        · omega
        · omega
        · exact absurd rfl h
        · simpa using h
      · rfl
    subst this
    exact ⟨none, 0, q, er, rfl, Cs.nil _ _, hr, hc, fun l r h => by cases h⟩
set_option maxRecDepth 100000 in
theorem dcells_no (w : World) (g : Nat) (n : Int) (hn : n < 0 ∨ 12000 < n) :
    Calls Tryd.prog 14 #[ptr g, .int .i64 n] w fun e' w' => e' = .returned (.tuple #[.slice none 0 0, .bool false]) ∧ w = w' := by
  rcases hn with hn | hn
  · go_enter Tryd.func14, Tryd.ntmps14
    go_wp2
    go_ret2
    exact ⟨rfl, rfl⟩
  · have hn0 : ¬ n < 0 := by omega
    go_enter Tryd.func14, Tryd.ntmps14
    go_wp2
    go_ret2
    exact ⟨rfl, rfl⟩
theorem dcells_u (w : World) (g : Nat) (u : Value) (B : List Int) (h : RdD w g u B 0 0) (n : Int) (ht : Tab w) (o : Option (List Ce × List Int)) (ho : cellsN n B = o) :
    Calls Tryd.prog 14 #[ptr g, .int .i64 n] w fun e' w' => ∃ a c q er, e' = .returned (.tuple #[.slice a (resC o).length c, .bool o.isSome]) ∧ Cs w w' (.slice a (resC o).length c) (resC o) ∧ RdD w' g u B q er ∧ Chg w w' (fun k => k = g) ∧ ∀ l r, o = some (l, r) → r = B.drop q := by
  by_cases hn : 0 ≤ n ∧ n ≤ 12000
  · obtain ⟨m, rfl⟩ : ∃ m : Nat, n = (m : Int) := ⟨n.toNat, by omega⟩
    rw [cellsN, if_pos hn, Int.toNat_natCast] at ho
    refine (dcellsread_any w g u B 0 0 h m (by omega) ht).mono ?_
    rintro e' w' ⟨hc, q, er, hr, ⟨h1, h2, v, cs, rfl, h5, h6⟩ | ⟨rfl, h1⟩⟩
    · have : o = some (cs, B.drop q) := by rw [← ho]; simpa using h6
      subst this
      obtain ⟨a, c, rfl, _⟩ := h5.form
      exact ⟨a, c, q, er, rfl, h5, hr, hc, fun l r h => by cases h; rfl⟩
    · have : o = none := by
        rw [← ho]
        rcases h1 with h | h
        · exact absurd rfl h
        · simpa using h
      subst this
      exact ⟨none, 0, q, er, rfl, Cs.nil _ _, hr, hc, fun l r h => by cases h⟩
  · rw [cellsN, if_neg hn] at ho
    subst ho
    refine (dcells_no w g n (by omega)).mono ?_
    rintro e' w' ⟨rfl, rfl⟩
    exact ⟨none, 0, 0, 0, rfl, Cs.nil _ _, h, Chg.refl _ _, fun l r h => by cases h⟩
abbrev scL (s : Sc) (v : Value) : Array Value := scA s.r s.c v s.y s.x s.h s.t
set_option maxRecDepth 100000 in
set_option maxHeartbeats 4000000 in
theorem KeyReads_walk (w : World) (a0 : Option Addr) (len0 cap0 : Nat) (l0 : List Int) (hr0 : Rd w 1 (.slice a0 len0 cap0) len0 (l0.map (Value.int .u8))) (hl0 : l0.length = len0) (y0 : len0 * 1 ≤ 140737488351232) (w0 : ∀ x ∈ l0, 0 ≤ x ∧ x ≤ 255) (nk0 : NilOk (.slice a0 len0 cap0))
    (a1 : Int) (w1 : -9223372036854775808 ≤ a1 ∧ a1 ≤ 9223372036854775807) (ht : Tab w) :
    Calls Tryd.prog 3 #[.slice a0 len0 cap0, .int .i64 a1] w fun e w' => e = .returned (.bool true) ∧ Chg w w' nob := by
  subst hl0
  have HB : Hid (By w (.slice a0 l0.length cap0) l0) := Lib.hid ⟨hr0, nk0, w0⟩
  have HT := Lib.hid ht
  obtain ⟨o, ho⟩ : ∃ o, decQ 256 l0 = o := ⟨_, rfl⟩
  obtain ⟨oc, hoc⟩ : ∃ o, cellsN a1 l0 = o := ⟨_, rfl⟩
  have hSl : (decS o).l.length ≤ 12000 := by rw [← ho]; exact decS_len (by decide) w0
  have HO := Lib.hid ho
  have HOC := Lib.hid hoc
  obtain ⟨S, hS⟩ : ∃ s, decS o = s := ⟨_, rfl⟩
  rw [hS] at hSl
  have HS := Lib.hid hS
  clear hr0 nk0 w0 ht y0 w1 ho hoc hS
  go_enter Tryd.func3, Tryd.ntmps3
  have HC : Hid (Chg w w nob) := Lib.hid (Chg.refl _ _)
  go_wp2_with fail
  go_at_call 8
  refine (kfirst_any w (HT.out.kept HC.out)).mono ?_
  rintro e x_ ⟨rfl, hx⟩
  have HX0 := Lib.hid hx
  replace HC := Lib.hid (HC.out.trans hx (fun _ _ h => h))
  clear hx
  clear HX0
  rename World => wA
  by_cases hin : l0.length ≤ 3000
  · have hini : ¬ ((3000 : Int) < (l0.length : Int)) := by omega
    go_wp2_with fail
    go_at_call 9
    have hd := kdec_u wA _ l0 (HB.out.kept HC.out) (by omega) (HT.out.kept HC.out) o HO.out
    rw [HS.out] at hd
    refine hd.mono ?_
    clear hd
    rintro e w2 ⟨sa, sc, rfl, hcs, hck⟩
    have HQ1 := Lib.hid hcs
    replace HC := Lib.hid (HC.out.trans hck (fun _ _ h => h))
    clear hcs hck
    go_upto_region 6 with (fail)
    obtain ⟨w3, hw⟩ : ∃ W, w2.alloc (.cells (scL S (.slice sa S.l.length sc)) 26) = W := ⟨_, rfl⟩
    have hck : Chg w2 w3 nob := by rw [← hw]; exact (Chg.refl w2 nob).alloc _
    have HX : Hid (Blk w3 w2.heap.size 26 (scL S (.slice sa S.l.length sc))) := Lib.hid (by rw [← hw]; exact Blk.new w2 _ _)
    rw [hw]
    clear hw
    obtain ⟨ix, hix⟩ : ∃ i, w2.heap.size = i := ⟨_, rfl⟩
    rw [hix] at HX ⊢
    clear hix
    replace HQ1 := Lib.hid (HQ1.out.kept hck)
    replace HC := Lib.hid (HC.out.trans hck (fun _ _ h => h))
    clear hck
    go_wp2_with fail
    go_at_call 10
    have hd := ddec_u w3 _ l0 (HB.out.kept HC.out) (by omega) (HT.out.kept HC.out) o HO.out
    rw [HS.out] at hd
    refine hd.mono ?_
    clear hd
    rintro e w4 ⟨ta, tc, rfl, hcs, hck⟩
    have HQ2 := Lib.hid hcs
    replace HX := Lib.hid (HX.out.kept hck id)
    replace HQ1 := Lib.hid (HQ1.out.kept hck)
    replace HC := Lib.hid (HC.out.trans hck (fun _ _ h => h))
    clear hcs hck
    go_upto_region 7 with (fail)
    obtain ⟨w5, hw⟩ : ∃ W, w4.alloc (.cells (scL S (.slice ta S.l.length tc)) 26) = W := ⟨_, rfl⟩
    have hck : Chg w4 w5 nob := by rw [← hw]; exact (Chg.refl w4 nob).alloc _
    have HY : Hid (Blk w5 w4.heap.size 26 (scL S (.slice ta S.l.length tc))) := Lib.hid (by rw [← hw]; exact Blk.new w4 _ _)
    rw [hw]
    clear hw
    obtain ⟨iy, hiy⟩ : ∃ i, w4.heap.size = i := ⟨_, rfl⟩
    rw [hiy] at HY ⊢
    clear hiy
    replace HX := Lib.hid (HX.out.kept hck id)
    replace HQ1 := Lib.hid (HQ1.out.kept hck)
    replace HQ2 := Lib.hid (HQ2.out.kept hck)
    replace HC := Lib.hid (HC.out.trans hck (fun _ _ h => h))
    clear hck
    go_wp2_with fail
    go_at_call 11
    refine (newrdr_any w5 _ l0 (HB.out.kept HC.out) (by omega)).mono ?_
    rintro e' w6 ⟨g, u, rfl, hr, hck, hg, _⟩
    have HR := Lib.hid hr
    have HG : Hid (w.heap.size ≤ g) := Lib.hid (Nat.le_trans HC.out.size hg)
    replace HX := Lib.hid (HX.out.kept hck id)
    replace HY := Lib.hid (HY.out.kept hck id)
    replace HQ1 := Lib.hid (HQ1.out.kept hck)
    replace HQ2 := Lib.hid (HQ2.out.kept hck)
    replace HC := Lib.hid (HC.out.trans hck (fun _ _ h => h))
    clear hr hck hg
    have x0 := HX.out.cell 0
    have x1 := HX.out.cell 1
    have x2 := HX.out.cell 2
    have x3 := HX.out.cell 3
    have x4 := HX.out.cell 4
    have x5 := HX.out.cell 5
    have x6 := HX.out.cell 6
    simp only [List.getElem?_toArray, List.getElem?_cons_zero, List.getElem?_cons_succ] at x0 x1 x2 x3 x4 x5 x6
    have y0 := HY.out.cell 0
    have y1 := HY.out.cell 1
    have y2 := HY.out.cell 2
    have y3 := HY.out.cell 3
    have y4 := HY.out.cell 4
    have y5 := HY.out.cell 5
    have y6 := HY.out.cell 6
    simp only [List.getElem?_toArray, List.getElem?_cons_zero, List.getElem?_cons_succ] at y0 y1 y2 y3 y4 y5 y6
    have hee : (decE o != decE o) = false := bne_self_eq_false _
    have HM := Lib.hid (tsame_any w6 S S (.slice sa S.l.length sc) (.slice ta S.l.length tc) HQ1.out.1.rd HQ2.out.1.rd (by omega))
    go_wp2_with fail
    go_at_call 12
    refine HM.out.mono ?_
    rintro e' w7 ⟨rfl, hck⟩
    replace HR := Lib.hid (HR.out.kept hck)
    replace HC := Lib.hid (HC.out.trans hck (fun _ _ h => h))
    clear hck x0 x1 x2 x3 x4 x5 x6 y0 y1 y2 y3 y4 y5 y6 HX HY HQ1 HQ2 HM
    go_upto_region 11 with (fail)
    obtain ⟨w8, hw⟩ : ∃ W, w7.alloc (.cells #[.slice a0 l0.length cap0, .int .i64 0, .int .i64 0] 35) = W := ⟨_, rfl⟩
    have hck : Chg w7 w8 nob := by rw [← hw]; exact (Chg.refl w7 nob).alloc _
    have HD : Hid (RdD w8 w7.heap.size (.slice a0 l0.length cap0) l0 0 0) := Lib.hid ⟨by rw [← hw]; exact Blk.new w7 _ _, (HB.out.kept HC.out).kept hck, Nat.zero_le _, by omega⟩
    have HG2 : Hid (w.heap.size ≤ w7.heap.size) := Lib.hid HC.out.size
    rw [hw]
    clear hw
    obtain ⟨g2, hg2⟩ : ∃ i, w7.heap.size = i := ⟨_, rfl⟩
    rw [hg2] at HD HG2 ⊢
    clear hg2
    replace HR := Lib.hid (HR.out.kept hck)
    replace HC := Lib.hid (HC.out.trans hck (fun _ _ h => h))
    clear hck
    go_wp2_with fail
    go_at_call 13
    refine (kcells_u w8 g u l0 HR.out a1 (HT.out.kept HC.out) oc HOC.out).mono ?_
    rintro e' w9 ⟨ra, rc, q, er, rfl, hcs, hr, hck, hq⟩
    have HL := Lib.hid hcs
    have HQ := Lib.hid hq
    have HD9 : Hid (RdD w9 g2 (.slice a0 l0.length cap0) l0 0 0) := Lib.hid ⟨HD.out.blk.kept hck (fun e => by
      subst e
      have h1 := (HD.out.blk.inj HR.out.blk).1
      revert h1; decide), HB.out.kept (HC.out.trans hck (fun i hi e => by have := HG.out; omega)), Nat.zero_le _, HD.out.big⟩
    replace HC : Hid (Chg w w9 nob) := Lib.hid (HC.out.trans hck (fun i hi e => by have := HG.out; omega))
    replace HR := Lib.hid hr
    clear hcs hr hck hq HD
    go_wp2_with fail
    go_at_call 14
    refine (dcells_u w9 g2 _ l0 HD9.out a1 (HT.out.kept HC.out) oc HOC.out).mono ?_
    rintro e' wx ⟨da, dc, q2, er2, rfl, hcs, hr, hck, hq⟩
    have HM := Lib.hid hcs
    have HQ2 := Lib.hid hq
    have HNE : Hid (g ≠ g2) := Lib.hid (fun e => by
      subst e
      have h1 := (HD9.out.blk.inj HR.out.blk).1
      revert h1; decide)
    replace HR : Hid (RdrR wx g u l0 q er) := Lib.hid ⟨HR.out.blk.kept hck (fun e => HNE.out e), HR.out.own.kept hck (fun k hk e => HR.out.own.ne HD9.out.blk (by decide) (by rwa [← e])), HR.out.byte, HR.out.le, HR.out.big⟩
    replace HL : Hid (Cs w8 wx (.slice ra (resC oc).length rc) (resC oc)) := Lib.hid (HL.out.rdD HD9.out hck)
    replace HC : Hid (Chg w wx nob) := Lib.hid (HC.out.trans hck (fun i hi e => by have := HG2.out; omega))
    have HD := Lib.hid hr
    clear hcs hr hck hq HD9
    have HLEN : Hid ((resC oc).length ≤ 1000000) := Lib.hid (by
      rw [← HOC.out]
      unfold cellsN
      split
      · rename_i hn
        cases hd : cellsF a1.toNat l0 with
        | none => simp [resC]
        | some x =>
          obtain ⟨_, h2, _⟩ := cellsF_back HB.out.byte (by omega) (show cellsF a1.toNat l0 = some (x.1, x.2) from hd)
          simp [resC, h2]
          omega
      · simp [resC])
    go_wp2_with fail
    go_at_call 8
    refine (kfirst_any wx (HT.out.kept HC.out)).mono ?_
    rintro e x_ ⟨rfl, hx⟩
    have HX0 := Lib.hid hx
    replace HC := Lib.hid (HC.out.trans hx (fun _ _ h => h))
    clear hx
    replace HR := Lib.hid (HR.out.kept HX0.out)
    replace HD := Lib.hid (HD.out.kept HX0.out)
    replace HL := Lib.hid (HL.out.kept HX0.out)
    replace HM := Lib.hid (HM.out.kept HX0.out)
    cases oc with
    | none =>
      have hr0 : (resC none).length = 0 := rfl
      simp only [Option.isSome_none]
      go_wp2
      go_ret
      exact ⟨rfl, HC.out⟩
    | some x =>
      obtain ⟨R, hR⟩ : ∃ r, resC (some x) = r := ⟨_, rfl⟩
      rw [hR] at HL HM HLEN ⊢
      simp only [Option.isSome_some]
      have HLFT : Hid (((l0.length : Int) - (q : Int) == (l0.length : Int) - (q2 : Int)) = true) := Lib.hid (by
        have h1 := HQ.out x.1 x.2 rfl
        have h2 := HQ2.out x.1 x.2 rfl
        have h3 := congrArg List.length (h1.symm.trans h2)
        have h4 := HR.out.le
        have h5 := HD.out.le
        simp only [List.length_drop] at h3
        simp
        omega)
      clear hR
      go_wp2_with fail
      go_at_call 15
      refine (tcells_any x_ _ _ R R HL.out.1.rd HM.out.1.rd HLEN.out).mono ?_
      rw [decide_eq_true (rfl : R = R)]
      rintro e' wy ⟨rfl, hck⟩
      replace HR := Lib.hid (HR.out.kept hck)
      replace HD := Lib.hid (HD.out.kept hck)
      replace HC := Lib.hid (HC.out.trans hck (fun _ _ h => h))
      clear hck
      go_wp2_with fail
      go_at_call 16
      refine (left_any wy g u l0 q er HR.out).mono ?_
      rintro e' wz ⟨rfl, hck⟩
      replace HD := Lib.hid (HD.out.kept hck)
      replace HC := Lib.hid (HC.out.trans hck (fun _ _ h => h))
      clear hck
      go_wp2_with fail
      go_at_call 17
      refine (dleft_any wz g2 _ l0 q2 er2 HD.out).mono ?_
      rintro e' wu ⟨rfl, hck⟩
      replace HC := Lib.hid (HC.out.trans hck (fun _ _ h => h))
      clear hck
      have hlft := HLFT.out
      go_wp2
      go_ret
      exact ⟨rfl, HC.out⟩
  · have hini : (3000 : Int) < (l0.length : Int) := by omega
    go_wp2_with fail
    go_at_call 8
    refine (kfirst_any wA (HT.out.kept HC.out)).mono ?_
    rintro e x_ ⟨rfl, hx⟩
    have HX0 := Lib.hid hx
    replace HC := Lib.hid (HC.out.trans hx (fun _ _ h => h))
    clear hx
    go_wp2
    go_ret
    exact ⟨rfl, HC.out⟩
end Go.Proofs.YtiojhfaeeelfeaaDoor

namespace Go.Proofs.YtiojhfaeeelfeaaDoor
open Go.ChangeShapes Go.WideShapes Go.Deep Go.RowKit
set_option linter.unusedVariables false

def fieldsOf (P : Program) (e : TypeId) : Array Field := match P.underlying e with | some (.struct fs) => fs | _ => #[]

section
variable {H : Type} {enc : TypeId × Value → H} {P : Program} {w : World} {base : Nat} {spare : Nat → Bool} {held : Bool}
theorem recs_cells {t e : TypeId} {c : Nat} {fuel : Nat} {a : Option Addr} {len cap : Nat} {x : DataW H × List MemPlace} (ht : P.underlying t = some (.slice e)) (hC : P.cellsOf e = c) (hc0 : 0 < c)
    (h : DataW.trod enc P w base spare held fuel t [.slice a len cap] = some x) : ∀ i, i < len →
      ∃ b o cs n y, a = some ⟨b, o, none⟩ ∧ cs.length = c ∧ (∀ j, j < c → w.cell? ⟨b, o + i * c + j, none⟩ = cs[j]?) ∧ DataW.trod enc P w base spare held n e cs = some y := by
  intro i hi
  rcases open_slice ht h with ⟨h0, _⟩ | ⟨a', len', cap', m, n, D, Pl, hcs, hb, hl, hm, hmm, hx, hrow⟩
  · cases h0; omega
  · cases hcs
    have him : i < m := by rw [hmm]; split <;> omega
    have h0 : w.cell? ((a'.add (0 * c)).add 0) ≠ none := by
      obtain ⟨cs0, hc, _⟩ := hrow 0 (by omega)
      rw [hC] at hc
      obtain ⟨_, hcl, hat⟩ := World.cells?_some hc
      rw [hat 0 hc0, List.getElem?_eq_getElem (by omega)]
      simp
    obtain ⟨cs', hc, ht'⟩ := hrow i him
    rw [hC] at hc
    obtain ⟨_, hcl, hat⟩ := World.cells?_some hc
    cases a' with
    | mk b o s =>
      cases s with
      | none => exact ⟨b, o, cs', n, _, rfl, hcl, fun j hj => by rw [← hat j hj, Addr.add_lit, Addr.add_lit], ht'⟩
      | some s =>
        exfalso
        refine h0 ?_
        simp only [Addr.add, Nat.zero_mul, if_true, World.cell?, Option.isSome_some]
        split <;> rfl
theorem recs_ints {t e : TypeId} {fuel : Nat} {a : Option Addr} {len cap : Nat} {x : DataW H × List MemPlace} (ks : List IntKind) (ht : P.underlying t = some (.slice e)) (he : P.underlying e = some (.struct (fieldsOf P e)))
    (hone : oneCellFields P (fieldsOf P e) = true) (hk : (fieldsOf P e).toList.map (fun f => P.underlying f.type) = ks.map fun k => some (.int k)) (hC : P.cellsOf e = ks.length) (hc0 : 0 < ks.length)
    (h : DataW.trod enc P w base spare held fuel t [.slice a len cap] = some x) : ∀ i, i < len →
      ∃ b o, a = some ⟨b, o, none⟩ ∧ ∀ j k, ks[j]? = some k → ∃ z, w.cell? ⟨b, o + i * ks.length + j, none⟩ = some (.int k z) ∧ (Lit.int k z).wf = true := by
  intro i hi
  obtain ⟨b, o, cs, n, y, rfl, hcl, hat, ht'⟩ := recs_cells ht hC hc0 h i hi
  refine ⟨b, o, rfl, fun j k hj => ?_⟩
  obtain ⟨ys, n', hn', hy, hlen, hyl, hf⟩ := DataW.trod_struct he ht'
  have hjl : j < ks.length := (List.getElem?_eq_some_iff.1 hj).1
  have hfl : (fieldsOf P e).size = ks.length := by have := congrArg List.length hk; simpa using this
  obtain ⟨f, hfj⟩ : ∃ f, (fieldsOf P e)[j]? = some f := ⟨_, Array.getElem?_eq_getElem (by omega)⟩
  obtain ⟨ho, h1⟩ := hone_of hone j f hfj
  have hu : P.underlying f.type = some (.int k) := by
    have := congrArg (fun l => l[j]?) hk
    simp only [List.getElem?_map, Array.getElem?_toList, hfj, hj, Option.map_some] at this
    exact Option.some.inj this
  have hv := hf j f hfj
  rw [ho, h1, List.drop_eq_getElem_cons (by omega)] at hv
  simp only [List.take_succ_cons, List.take_zero] at hv
  have hys : ys[j]? = some (ys[j]'(by omega)) := List.getElem?_eq_getElem (by omega)
  rw [hys] at hv
  obtain ⟨z, hz, _, hwf⟩ := DataW.trod_int hu hv
  refine ⟨z, ?_, hwf⟩
  rw [hat j hjl, List.getElem?_eq_getElem (by omega)]
  exact congrArg some (List.cons.inj hz).1
end
end Go.Proofs.YtiojhfaeeelfeaaDoor
