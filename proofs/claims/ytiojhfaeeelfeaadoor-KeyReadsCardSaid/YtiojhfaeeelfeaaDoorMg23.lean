/-
  slices.Repeat of one cell; a blank screen.
  Package key: cells read, or given up.
-/
import Derived.Test.YtiojhfaeeelfeaaDoorMg22
import Derived.Test.YtiojhfaeeelfeaaDoorMg17
import Derived.Lib.EndianBits
namespace Go.Proofs.YtiojhfaeeelfeaaDoor
open Go.RowKit
set_option linter.unusedVariables false
set_option linter.unusedSimpArgs false

theorem i_cell : (Tryd.prog.info? 54).map (fun i => (i.zero, i.size, i.bytes)) = some (some (.agg #[.int .i32 0, .int .i64 0, .int .i64 0, .int .i64 0, .int .i64 0]), 5, 40) := by kernel_rfl
theorem cellsV_one (l : List Ce) : ∀ u ∈ cellsV l, u.oneCell' = true := fun u hu => by
  obtain ⟨c, _, h⟩ := List.mem_flatMap.1 hu
  simp only [Ce.cs, List.mem_cons, List.not_mem_nil, or_false] at h
  rcases h with rfl | rfl | rfl | rfl | rfl <;> rfl
theorem cellsV_app (a b : List Ce) : cellsV (a ++ b) = cellsV a ++ cellsV b := by simp [cellsV]
theorem u_cells' : Tryd.prog.underlying 24 = some (.slice 54) := by kernel_rfl
theorem make_cells (w : World) (m : Nat) (h : m ≤ 100000) : ∃ wm Z, (Instr.makeSlice 24 (.int .i64 m) (.int .i64 m)).run Tryd.prog w = .ok (.slice (some ⟨w.heap.size, 0, none⟩) m m) wm ∧ Blk wm w.heap.size 54 Z ∧ Z.size = m * 5 ∧ Chg w wm nob := by
  obtain ⟨i, hi, hz, hsize, hby⟩ := info_parts i_cell
  have hr := run_make (P := Tryd.prog) w 24 54 i _ u_cells' hi hz .i64 .i64 m m (by omega) (Int.le_refl _) (by rw [hby]; omega) (by omega)
  simp only [Int.toNat_natCast] at hr
  exact ⟨_, _, hr, Blk.new w _ _, by rw [size_madeCells, hsize], (Chg.refl w nob).alloc _⟩
theorem rep_len (k : Nat) (c : Ce) : (cellsV (List.replicate k c)).length = k * 5 := by rw [cellsV_len, List.length_replicate]
theorem rep_add (a b : Nat) (c : Ce) : cellsV (List.replicate (a + b) c) = cellsV (List.replicate a c) ++ cellsV (List.replicate b c) := by rw [← List.replicate_append_replicate, cellsV_app]
theorem over_rep {cu : List Value} {n k : Nat} {c : Ce} (h : cu.take (n * 5) = cellsV (List.replicate n c)) (hl : (n + k) * 5 ≤ cu.length) : (over cu (n * 5) (cellsV (List.replicate k c))).take ((n + k) * 5) = cellsV (List.replicate (n + k) c) := by
  have e : (n + k) * 5 = (cellsV (List.replicate n c) ++ cellsV (List.replicate k c)).length := by rw [List.length_append, rep_len, rep_len]; omega
  rw [over, h, rep_add, e]
  exact List.take_left
theorem rep_at {cu : List Value} {n k : Nat} {c : Ce} (h : cu.take (n * 5) = cellsV (List.replicate n c)) (hk : k ≤ n) (j : Nat) (v : Value) (hj : (cellsV (List.replicate k c))[j]? = some v) : cu[j]? = some v := by
  have hjl := (List.getElem?_eq_some_iff.1 hj).1
  rw [rep_len] at hjl
  have e : (cu.take (n * 5))[j]? = cu[j]? := List.getElem?_take_of_lt (by omega)
  rw [← e, h, show n = k + (n - k) by omega, rep_add, List.getElem?_append_left (by rw [rep_len]; exact hjl)]
  exact hj
set_option maxHeartbeats 4000000 in
set_option maxRecDepth 100000 in
/-- One cell, m times. -/
theorem repeat_any (w : World) (c : Ce) (va : Value) (m : Nat) (ha : Rd w 5 va 1 (cellsV [c])) (h1 : 1 ≤ m) (h2 : m ≤ 100000) : Calls Tryd.prog 53 #[va, .int .i64 m] w fun e w' =>
    ∃ v, e = .returned v ∧ Own w' 54 5 v m (cellsV (List.replicate m c)) ∧ Chg w w' nob ∧ ∀ k, blkOf v k → w.heap.size ≤ k := by
  obtain ⟨a1, c1, rfl, hn1, hx, hcl⟩ := ha
  have HC := Lib.hid hcl
  clear hcl
  obtain ⟨g, o, rfl, _⟩ := HC.out 0 (.int .i32 c.r) rfl
  have hmul := mul_any w 1 m (by omega) (by omega) (by omega)
  rw [Nat.one_mul] at hmul
  have HM := Lib.hid hmul
  obtain ⟨wm, Z, hmk, hbm, hzs, hcm⟩ := make_cells w m h2
  have HBM := Lib.hid hbm
  have HCM := Lib.hid hcm
  have HSR : Hid (∀ (j : Nat) (v : Value), (cellsV [c])[j]? = some v → wm.cell? ((⟨g, o, none⟩ : Addr).add j) = some v) := Lib.hid (fun j v hv => by
    obtain ⟨b, o', he, hc⟩ := HC.out j v hv
    cases he
    rw [Addr.add_lit]
    exact hcm.cell hc id)
  have hul : (1 : Int) ≤ (m : Int) := by omega
  clear hmul hbm hcm
  go_enter Tryd.func53, Tryd.ntmps53
  go_wp2_with fail
  go_at_call 76
  refine HM.out.mono ?_
  rintro e w' ⟨rfl, rfl⟩
  go_wp2_with (refine wpList_copy rfl (.tmp 31) (.tmp 32) 24 24 rfl 54 5 u_cells' (by kernel_rfl) _ 0 m m ⟨g, o, none⟩ 1 c1 rfl rfl Z _ HBM.out (cellsV [c]) 1 (by (show 1 = min 1 m); omega) rfl HSR.out (by rw [hzs]; (show 0 + 5 ≤ m * 5); omega) (cellsV_one _) ?_)
  intro w1 hb1 hc1
  have hHZ : Hid ((over Z.toList 0 (cellsV [c])).take 5 = cellsV (List.replicate 1 c)) := Lib.hid (by simp [over, cellsV, Ce.cs])
  have hHS : Hid ((over Z.toList 0 (cellsV [c])).length = m * 5) := Lib.hid (by rw [over_len (by simp [cellsV, Ce.cs]; omega)]; simpa using hzs)
  obtain ⟨cur, hcur⟩ : ∃ cur, over Z.toList 0 (cellsV [c]) = cur := ⟨_, rfl⟩
  rw [hcur] at hb1 hHZ hHS
  have HB1 := Lib.hid hb1
  have HC1 : Hid (Chg w' w1 nob) := Lib.hid (HCM.out.trans hc1 (fun i hi h => by subst h; exact absurd hi (Nat.lt_irrefl _)))
  have hm0 : ¬ m = 0 := by omega
  clear hb1 hc1 hcur
  go_wp2_with fail
  go_loopw [8] (fun nv wr => ∃ (n : Nat) (cu : List Value), 1 ≤ n ∧ n ≤ m ∧ nv = .int .i64 n ∧ Hid (Blk wr w'.heap.size 54 cu.toArray) ∧ Hid (cu.take (n * 5) = cellsV (List.replicate n c)) ∧ Hid (cu.length = m * 5) ∧ Hid (Chg w' wr nob)) (fun nv _ => m - (intOf nv).toNat)
  case atStart => exact ⟨1, cur, Nat.le_refl _, h1, rfl, HB1, hHZ, hHS, HC1⟩
  case round =>
    obtain ⟨n, cu, hn1, hnm, rfl, HB, HTK, HLN, HC2⟩ := hrel
    by_cases hlt : n < m
    · have hlti : (n : Int) < (m : Int) := by omega
      have hn0 : (0 : Int) ≤ (n : Int) := by omega
      have hne : ¬ m = n := by omega
      have hle : (n : Int) ≤ (m : Int) := by omega
      go_wp2_with fail
      refine wp_one [] [7] [] [0, 1, 2, 3, 4, 5, 6, 7, 8, 9] rfl (by kernel_rfl) (fun _ _ _ _ _ h => h) ?_; simp only [List.map_cons, List.map_nil, List.getElem?_toArray, List.getElem?_cons_zero, List.getElem?_cons_succ]
      (repeat (first | (apply can0; (· rfl); (· rfl); (· (intro w'; first | (go_simp; with_reducible rfl) | (go_simp; done))); simp only [Act.put, List.setIfInBounds_toArray, List.set_cons_zero, List.set_cons_succ]) | (apply can1; (· rfl); (· rfl); (· (first | (go_simp; with_reducible rfl) | (go_simp; done))); simp only [Act.put, List.setIfInBounds_toArray, List.set_cons_zero, List.set_cons_succ]) | (apply canN; (· rfl); (· rfl); simp only [Act.put, List.setIfInBounds_toArray, List.set_cons_zero, List.set_cons_succ]) | (apply canN1; (· rfl); (· rfl); simp only [Act.put, List.setIfInBounds_toArray, List.set_cons_zero, List.set_cons_succ]) | (apply can0; (· rfl); (· (go_simp; done)); (· (intro w'; first | (go_simp; with_reducible rfl) | (go_simp; done))); simp only [Act.put, List.setIfInBounds_toArray, List.set_cons_zero, List.set_cons_succ]) | (apply can1; (· rfl); (· (go_simp; done)); (· (first | (go_simp; with_reducible rfl) | (go_simp; done))); simp only [Act.put, List.setIfInBounds_toArray, List.set_cons_zero, List.set_cons_succ]) | (apply canN; (· rfl); (· (go_simp; done)); simp only [Act.put, List.setIfInBounds_toArray, List.set_cons_zero, List.set_cons_succ]) | (apply canN1; (· rfl); (· (go_simp; done)); simp only [Act.put, List.setIfInBounds_toArray, List.set_cons_zero, List.set_cons_succ])))
      obtain ⟨k, hk⟩ : ∃ k, min n (m - n) = k := ⟨_, rfl⟩
      have hk1 : 1 ≤ k ∧ k ≤ n ∧ n + k ≤ m := by omega
      obtain ⟨k1, k2, k3⟩ := hk1
      have HKK := Lib.hid hk
      clear hk
      refine canW rfl [] rfl (fun K hK => ?_)
      rw [if_pos (by rfl)]
      refine wp_copy (.tmp 41) (.tmp 44) 24 24 rfl 54 5 u_cells' (by kernel_rfl) w'.heap.size (n * 5) (m - n) (m - n) ⟨w'.heap.size, 0, none⟩ n m (by first | rfl | (simp [Act.eval]; done)) (by first | rfl | (simp [Act.eval]; done)) cu.toArray _ HB.out.drew (cellsV (List.replicate k c)) k HKK.out.symm (rep_len k c) ?_ ?_ (cellsV_one _) ?_
      · intro j v hj
        rw [Addr.add_lit, Nat.zero_add, (HB.out.drew).cell]
        simpa using rep_at HTK.out k2 j v hj
      · rw [rep_len]
        have := HLN.out
        simp only [List.size_toArray]
        omega
      · intro w2 hb2 hc2
        have hw : IntKind.i64.wrap ((n : Int) + (k : Int)) = ((n + k : Nat) : Int) := by rw [show ((n : Int) + (k : Int)) = ((n + k : Nat) : Int) by omega]; simp only [IntKind.wrap, IntKind.bits, IntKind.signed]; simp; omega
        have HB2 : Hid (Blk w2 w'.heap.size 54 (over cu (n * 5) (cellsV (List.replicate k c))).toArray) := Lib.hid (by simpa using hb2)
        have HTK2 := Lib.hid (over_rep (k := k) HTK.out (by rw [HLN.out]; omega))
        have HLN2 := Lib.hid (show (over cu (n * 5) (cellsV (List.replicate k c))).length = m * 5 by rw [over_len (by rw [rep_len, HLN.out]; omega)]; exact HLN.out)
        have HC3 : Hid (Chg w' w2 nob) := Lib.hid (HC2.out.drew.trans hc2 (fun i hi h => by subst h; exact absurd hi (Nat.lt_irrefl _)))
        clear hb2 hc2
        obtain ⟨cu2, hcu2⟩ : ∃ cu2, over cu (n * 5) (cellsV (List.replicate k c)) = cu2 := ⟨_, rfl⟩
        rw [hcu2] at HB2 HTK2 HLN2
        clear hcu2
        simp only [goInt]
        (refine hK _ _ (fun u hu => by cases hu) ?_; clear hK K; try simp only [Act.put, List.setIfInBounds_toArray, List.set_cons_zero, List.set_cons_succ])
        (repeat (first | (apply can0; (· rfl); (· rfl); (· (intro w'; first | (go_simp; with_reducible rfl) | (go_simp; done))); simp only [Act.put, List.setIfInBounds_toArray, List.set_cons_zero, List.set_cons_succ]) | (apply can1; (· rfl); (· rfl); (· (first | (go_simp; with_reducible rfl) | (go_simp; done))); simp only [Act.put, List.setIfInBounds_toArray, List.set_cons_zero, List.set_cons_succ]) | (apply canN; (· rfl); (· rfl); simp only [Act.put, List.setIfInBounds_toArray, List.set_cons_zero, List.set_cons_succ]) | (apply canN1; (· rfl); (· rfl); simp only [Act.put, List.setIfInBounds_toArray, List.set_cons_zero, List.set_cons_succ]) | (apply can0; (· rfl); (· (go_simp; done)); (· (intro w'; first | (go_simp; with_reducible rfl) | (go_simp; done))); simp only [Act.put, List.setIfInBounds_toArray, List.set_cons_zero, List.set_cons_succ]) | (apply can1; (· rfl); (· (go_simp; done)); (· (first | (go_simp; with_reducible rfl) | (go_simp; done))); simp only [Act.put, List.setIfInBounds_toArray, List.set_cons_zero, List.set_cons_succ]) | (apply canN; (· rfl); (· (go_simp; done)); simp only [Act.put, List.setIfInBounds_toArray, List.set_cons_zero, List.set_cons_succ]) | (apply canN1; (· rfl); (· (go_simp; done)); simp only [Act.put, List.setIfInBounds_toArray, List.set_cons_zero, List.set_cons_succ])))
        refine canE ?_
        go_wp2
        go_roundw
        case rel => exact ⟨n + k, cu2, by omega, by omega, by go_num, HB2, HTK2, HLN2, HC3⟩
        case measure => simp [intOf]; omega
    · obtain rfl : n = m := by omega
      go_wp2
      go_ret
      refine ⟨_, rfl, ?_, HC2.out, fun k hk => by cases hk; exact Nat.le_refl _⟩
      refine ⟨rep_len _ _, .inr ⟨w'.heap.size, n, cu.toArray, rfl, Nat.zero_le _, HB.out, Nat.le_refl _, by unfold maxLen; omega, by simpa using HLN.out, by simpa using HTK.out⟩⟩
end Go.Proofs.YtiojhfaeeelfeaaDoor

namespace Go.Proofs.YtiojhfaeeelfeaaDoor
open Go.RowKit
set_option linter.unusedVariables false
set_option linter.unusedSimpArgs false

def lenV : Value → Nat
  | .slice _ n _ => n
  | _ => 0
/-- Cells of one's own, new since w. -/
def Cs (w wr : World) (v : Value) (l : List Ce) : Prop := Own wr 54 5 v l.length (cellsV l) ∧ ∀ k, blkOf v k → w.heap.size ≤ k
theorem Cs.nil (w wr : World) : Cs w wr (.slice none 0 0) [] := ⟨World.ownsRow_nil _ _ _ _, fun k hk => by cases hk⟩
section
variable {w wr w' : World} {v : Value} {l : List Ce} {g p : Nat} {u : Value} {B : List Int} {e : Int}
theorem Cs.kept (h : Cs w wr v l) (hc : Chg wr w' nob) : Cs w w' v l := ⟨h.1.kept hc (fun _ _ => id), h.2⟩
theorem Cs.rd (h : Cs w wr v l) (hr : RdrR wr g u B p e) (hc : Chg wr w' (fun k => k = g)) : Cs w w' v l := ⟨h.1.kept hc (fun k hk e => h.1.ne hr.blk (by decide) (by rwa [← e])), h.2⟩
theorem Cs.form (h : Cs w wr v l) : ∃ a c, v = .slice a l.length c ∧ l.length ≤ c := by
  obtain ⟨a, c, e, h1, _⟩ := h.1.form
  exact ⟨a, c, e, h1⟩
/-- A row of cells is no reader. -/
theorem RdrR.row (h : RdrR wr g u B p e) (hl : Cs w wr v l) (hc : Chg wr w' (blkOf v)) : RdrR w' g u B p e :=
  ⟨h.blk.kept hc (fun hk => hl.1.ne h.blk (by decide) hk), h.own.kept hc (fun k hk hf => by
    obtain ⟨c1, hb1⟩ := h.own.row hk
    exact hl.1.ne hb1 (by decide) hf), h.byte, h.le, h.big⟩
end
theorem cellsV_snoc (l : List Ce) (c : Ce) : cellsV (l ++ [c]) = cellsV l ++ c.cs := by simp [cellsV]
attribute [local go_sem ↓] ce_guard run_eql_ce run_neq_ce
set_option maxRecDepth 100000 in
set_option maxHeartbeats 4000000 in
theorem kread_any (w : World) (g : Nat) (u : Value) (B : List Int) (p : Nat) (e : Int) (h : RdrR w g u B p e) (n : Nat) (hn : n ≤ 100000) (ht : Tab w) :
    Calls Tryd.prog 38 #[ptr g, .int .i64 n] w fun e' w' => Chg w w' (fun k => k = g) ∧ ∃ q er, RdrR w' g u B q er ∧ ((er = e ∧ (e = 0 ∨ n = 0) ∧ ∃ v cs, e' = .returned v ∧ Cs w w' v cs ∧ cellsF n (B.drop p) = some (cs, B.drop q)) ∨ (e' = kstop ∧ (e ≠ 0 ∨ cellsF n (B.drop p) = none))) := by
  have HR := Lib.hid h
  have HR0 := Lib.hid h
  have HT := Lib.hid ht
  obtain ⟨RP, hRP⟩ : ∃ R, cellsF n (B.drop p) = R := ⟨_, rfl⟩
  have HQ : Hid (RP = cellsQ n n [] (B.drop p)) := Lib.hid (by rw [← hRP]; rfl)
  rw [hRP]
  clear h ht hRP
  go_enter Tryd.func38, Tryd.ntmps38
  go_wp2_with fail
  go_loopw [5] (fun lv wr => ∃ (fu : Nat) (out : List Ce) (q L : Nat) (a : Option Addr) (c : Nat), lv = .slice a L c ∧ L ≤ n ∧ Hid (out.length = L) ∧ Hid (n ≤ L + fu) ∧ Hid (Cs w wr (.slice a L c) out) ∧ Hid (RP = cellsQ fu n out (B.drop q)) ∧ Hid (RdrR wr g u B q e) ∧ Hid (e = 0 ∨ out = []) ∧ Hid (Chg w wr (fun k => k = g))) (fun lv _ => n - lenV lv)
  case atStart => exact ⟨n, [], p, 0, none, 0, rfl, Nat.zero_le _, Lib.hid rfl, Lib.hid (by simp), Lib.hid (Cs.nil w w), HQ, HR, Lib.hid (.inr rfl), Lib.hid (Chg.refl _ _)⟩
  case round =>
    obtain ⟨fu, out, q, L, a, c, rfl, hle, HLen, HF, HL, HQ1, HR1, HE, HC⟩ := hrel
    clear HQ HR
    have h0 : (0 : Int) ≤ (L : Int) := by omega
    by_cases hlt : L < n
    · have hii : (L : Int) < (n : Int) := by omega
      obtain ⟨fu', rfl⟩ : ∃ f, fu = f + 1 := ⟨fu - 1, by have := HF.out; omega⟩
      have hsub : IntKind.i64.wrap ((n : Int) - (L : Int)) = ((n - L : Nat) : Int) := by simp only [IntKind.wrap, IntKind.bits, IntKind.signed]; simp; omega
      have HKR := Lib.hid (krun_any wr g u B q e HR1.out (n - L) (by omega) (HT.out.rd HR0.out HC.out))
      have HQ2 := HQ1.out
      rw [cellsQ, if_neg (by rw [HLen.out]; omega), HLen.out] at HQ2
      have HQ3 := Lib.hid HQ2
      clear HQ2 HQ1
      go_wp2_with fail
      go_at_call 66
      refine HKR.out.mono ?_
      rintro e' w2 ⟨hc, q2, er, hr, ⟨h1, h2, k, ce, rfl, h3⟩ | ⟨rfl, h3⟩⟩
      rotate_left
      · have HN : Hid (e ≠ 0 ∨ RP = none) := Lib.hid (h3.imp (fun h => h) (fun h => by rw [HQ3.out, h]))
        have HH := Lib.hid (And.intro (HC.out.trans hc (fun _ _ h => h)) hr)
        clear hc hr h3
        go_wp2
        exact ⟨rfl, HH.out.1, _, _, HH.out.2, .inr ⟨rfl, HN.out⟩⟩
      subst h1
      have hkb := runP_back (fun x hx => HR1.out.byte x (List.mem_of_mem_drop hx)) (by omega) h3
      rw [h3] at HQ3
      replace HL := Lib.hid (HL.out.rd HR1.out hc)
      replace HC := Lib.hid (HC.out.trans hc (fun _ _ h => h))
      replace HR1 := Lib.hid hr
      have HE0 := Lib.hid h2
      obtain ⟨_, hk0, hkn, _⟩ := hkb
      clear hc hr h2 h3 HKR HE hsub
      obtain ⟨cr, cf, cg, cb, cw⟩ := ce
      simp only [Ce.val]
      go_upto_region 4 with (fail)
      obtain ⟨w3, hw⟩ : ∃ W, w2.alloc (.cells #[.int .i32 cr, .int .i64 cf, .int .i64 cg, .int .i64 cb, .int .i64 cw] 54) = W := ⟨_, rfl⟩
      have hck : Chg w2 w3 nob := by rw [← hw]; exact (Chg.refl w2 nob).alloc _
      have HX : Hid (Blk w3 w2.heap.size 54 #[.int .i32 cr, .int .i64 cf, .int .i64 cg, .int .i64 cb, .int .i64 cw]) := Lib.hid (by rw [← hw]; exact Blk.new w2 _ _)
      rw [hw]
      clear hw
      have HNB : Hid (¬ blkOf (.slice a L c) w2.heap.size) := Lib.hid (fun hk => by have := HL.out.1.lt hk; omega)
      have HWS : Hid (w.heap.size ≤ w2.heap.size) := Lib.hid HC.out.size
      obtain ⟨ix, hix⟩ : ∃ i, w2.heap.size = i := ⟨_, rfl⟩
      rw [hix] at HX HNB HWS ⊢
      clear hix
      replace HR1 := Lib.hid (HR1.out.kept hck)
      replace HL := Lib.hid (HL.out.kept hck)
      replace HC := Lib.hid (HC.out.trans hck (fun _ _ h => h.elim))
      clear hck
      have x0 := HX.out.cell 0
      have x1 := HX.out.cell 1
      have x2 := HX.out.cell 2
      have x3 := HX.out.cell 3
      have x4 := HX.out.cell 4
      simp only [List.getElem?_toArray, List.getElem?_cons_zero, List.getElem?_cons_succ] at x0 x1 x2 x3 x4
      by_cases ho : out = []
      · have ho0 : L = 0 := by rw [← HLen.out, ho]; rfl
        have HN : Hid (RP = cellsQ fu' n (out ++ List.replicate k ⟨cr, cf, cg, cb, cw⟩) (B.drop q2)) := Lib.hid (by rw [HQ3.out]; simp only; rw [if_neg (by rw [ho]; simp)])
        have hz : ((0 : Int) < (L : Int)) = False := eq_false (by omega)
        have hzn : (0 < L) = False := eq_false (by omega)
        clear ho ho0
        go_quiet (fail)
        obtain ⟨w4, hw⟩ : ∃ W, w3.drewN nq = W := ⟨_, rfl⟩
        have hck : Chg w3 w4 nob := by rw [← hw]; exact (Chg.refl w3 nob).drewN _
        rw [hw]
        clear hw
        replace HR1 := Lib.hid (HR1.out.kept hck)
        replace HL := Lib.hid (HL.out.kept hck)
        replace HC := Lib.hid (HC.out.trans hck (fun _ _ h => h.elim))
        replace HX := Lib.hid (HX.out.kept hck (fun h => h))
        clear hck x0 x1 x2 x3 x4 hz hzn
        go_wp2_with fail
        go_loopw [5, 37] (fun lv iv wr => ∃ (j M : Nat) (a' : Option Addr) (c' : Nat), j ≤ k ∧ iv = .int .i64 j ∧ lv = .slice a' M c' ∧ Hid (M = L + j) ∧ Hid (Cs w wr (.slice a' M c') (out ++ List.replicate j ⟨cr, cf, cg, cb, cw⟩)) ∧ Hid (RdrR wr g u B q2 0) ∧ Hid (Blk wr ix 54 #[.int .i32 cr, .int .i64 cf, .int .i64 cg, .int .i64 cb, .int .i64 cw]) ∧ Hid (¬ blkOf (.slice a' M c') ix) ∧ Hid (Chg w wr (fun k => k = g))) (fun _ iv _ => k - (intOf iv).toNat)
        case atStart => exact ⟨0, L, _, c, Nat.zero_le _, rfl, rfl, Lib.hid rfl, Lib.hid (by rw [List.replicate_zero, List.append_nil]; exact HL.out), HR1, HX, HNB, HC⟩
        case round =>
          clear HL HR1 HX HNB HC
          obtain ⟨j, M, a', c', hj, rfl, rfl, HM, HL, HR1, HX, HNB, HC⟩ := hrel
          by_cases hjk : j < k
          · have hji : (j : Int) < (k : Int) := by omega
            have hj0 : (0 : Int) ≤ (j : Int) := by omega
            have x0 := HX.out.cell 0
            have x1 := HX.out.cell 1
            have x2 := HX.out.cell 2
            have x3 := HX.out.cell 3
            have x4 := HX.out.cell 4
            simp only [List.getElem?_toArray, List.getElem?_cons_zero, List.getElem?_cons_succ] at x0 x1 x2 x3 x4
            have HOW : Hid (Own wr 54 5 (.slice a' M c') M (cellsV (out ++ List.replicate j ⟨cr, cf, cg, cb, cw⟩))) := Lib.hid (by
              have h := HL.out.1
              rwa [show (out ++ List.replicate j (⟨cr, cf, cg, cb, cw⟩ : Ce)).length = M by rw [List.length_append, List.length_replicate, HLen.out, HM.out]] at h)
            go_wp2_with (at_builtin; refine wpList_push rfl (.tmp 39) (.tmp 41) 24 rfl 54 (.agg #[.int .i32 0, .int .i64 0, .int .i64 0, .int .i64 0, .int .i64 0]) 5 40 i_cell u_cells rfl (by decide) (.slice a' M c') M _ rfl HOW.out 1 1 rfl rfl rfl (by unfold maxLen; have := HM.out; omega) (by have := HM.out; omega) ?_)
            intro v' w5 ho hch hfo
            have hrow := HR1.out.row HL.out hch
            have hlen2 : (out ++ List.replicate (j + 1) (⟨cr, cf, cg, cb, cw⟩ : Ce)).length = M + 1 := by rw [List.length_append, List.length_replicate, HLen.out, HM.out]; omega
            have hcs : Cs w w5 v' (out ++ List.replicate (j + 1) ⟨cr, cf, cg, cb, cw⟩) := ⟨by
              rw [hlen2, List.replicate_succ', ← List.append_assoc, cellsV_snoc]
              exact ho, fun i hi => (hfo i hi).elim (fun h => HL.out.2 i h) (fun h => Nat.le_trans HC.out.size h)⟩
            have hnb : ¬ blkOf v' ix := fun h => (hfo ix h).elim HNB.out (fun h => by have := HX.out.lt; omega)
            have hx5 := HX.out.kept hch HNB.out
            have hc5 : Chg w w5 (fun k => k = g) := HC.out.trans hch (fun i hi h => absurd (HL.out.2 i h) (by omega))
            obtain ⟨a5, c5, e5, _⟩ := ho.form
            subst e5
            have HREL := Lib.hid (And.intro hcs (And.intro hrow (And.intro hx5 (And.intro hnb hc5))))
            clear ho hch hfo hrow hlen2 hcs hnb hx5 hc5 x0 x1 x2 x3 x4
            go_wp2
            go_roundw
            case rel => exact ⟨j + 1, M + 1, a5, c5, by omega, by go_num, rfl, Lib.hid (by have := HM.out; omega), Lib.hid HREL.out.1, Lib.hid HREL.out.2.1, Lib.hid HREL.out.2.2.1, Lib.hid HREL.out.2.2.2.1, Lib.hid HREL.out.2.2.2.2⟩
            case measure => simp [intOf]; omega
          · obtain rfl : j = k := by omega
            have hML := HM.out
            have hfu := HF.out
            have hMn : M ≤ n := by omega
            have hMf : n ≤ M + fu' := by omega
            have hML2 : L < M := by omega
            clear hML hfu
            go_wp2
            go_roundw
            case rel => exact ⟨fu', out ++ List.replicate j ⟨cr, cf, cg, cb, cw⟩, q2, M, a', c', rfl, hMn, Lib.hid (by rw [List.length_append, List.length_replicate, HLen.out, HM.out]), Lib.hid hMf, HL, HN, Lib.hid (by rw [HE0.out]; exact HR1.out), Lib.hid (.inl HE0.out), HC⟩
            case measure => simp [lenV]; omega
      · obtain ⟨d, hd⟩ : ∃ d, out.getLast? = some d := ⟨out.getLast ho, List.getLast?_eq_some_getLast ho⟩
        have hdk : out[L - 1]? = some d := by rw [← hd, List.getLast?_eq_getElem?, HLen.out]
        have hpos : 0 < L := by rw [← HLen.out]; exact List.length_pos_iff.2 ho
        obtain ⟨m, hm⟩ : ∃ m, L = m + 1 := ⟨L - 1, by omega⟩
        have hz : ((0 : Int) < (L : Int)) = True := eq_true (by omega)
        have hzn : (0 < L) = True := eq_true (by omega)
        have hw1 : IntKind.i64.wrap ((L : Int) - 1) = (m : Int) := by simp only [IntKind.wrap, IntKind.bits, IntKind.signed]; simp; omega
        have hm0 : (0 : Int) ≤ (m : Int) := by omega
        have hm1 : (m : Int) < (L : Int) := by omega
        have hrd := HL.out.1.rd
        rw [HLen.out] at hrd
        obtain ⟨gl, ol, rfl, d0, d1, d2, d3, d4⟩ := hrd.cell5 hdk
        rw [show L - 1 = m by omega] at d0 d1 d2 d3 d4
        obtain ⟨qq, hq⟩ : ∃ q, eqC d ⟨cr, cf, cg, cb, cw⟩ = q := ⟨_, rfl⟩
        have HN : Hid (RP = if qq = true then none else cellsQ fu' n (out ++ List.replicate k ⟨cr, cf, cg, cb, cw⟩) (B.drop q2)) := Lib.hid (by
          rw [HQ3.out]
          simp only [hd]
          cases qq with
          | true => simp [eqC_t hq]
          | false => simp [eqC_f hq])
        obtain ⟨dr, df, dg, db, dw⟩ := d
        simp only at d0 d1 d2 d3 d4
        clear ho hd hdk hrd hpos hm
        cases qq with
        | true =>
          go_quiet (fail)
          obtain ⟨w4, hw⟩ : ∃ W, w3.drewN nq = W := ⟨_, rfl⟩
          have hck : Chg w3 w4 nob := by rw [← hw]; exact (Chg.refl w3 nob).drewN _
          rw [hw]
          clear hw
          go_wp2
          exact ⟨rfl, HC.out.trans hck (fun _ _ h => h.elim), _, _, HR1.out.kept hck, .inr ⟨rfl, .inr (HN.out.trans (if_pos trivial))⟩⟩
        | false =>
          replace HN : Hid (RP = cellsQ fu' n (out ++ List.replicate k ⟨cr, cf, cg, cb, cw⟩) (B.drop q2)) := Lib.hid (HN.out.trans (if_neg (by simp)))
          go_quiet (fail)
          obtain ⟨w4, hw⟩ : ∃ W, w3.drewN nq = W := ⟨_, rfl⟩
          have hck : Chg w3 w4 nob := by rw [← hw]; exact (Chg.refl w3 nob).drewN _
          rw [hw]
          clear hw
          replace HR1 := Lib.hid (HR1.out.kept hck)
          replace HL := Lib.hid (HL.out.kept hck)
          replace HC := Lib.hid (HC.out.trans hck (fun _ _ h => h.elim))
          replace HX := Lib.hid (HX.out.kept hck (fun h => h))
          clear hck x0 x1 x2 x3 x4 hz hzn
          go_wp2_with fail
          go_loopw [5, 37] (fun lv iv wr => ∃ (j M : Nat) (a' : Option Addr) (c' : Nat), j ≤ k ∧ iv = .int .i64 j ∧ lv = .slice a' M c' ∧ Hid (M = L + j) ∧ Hid (Cs w wr (.slice a' M c') (out ++ List.replicate j ⟨cr, cf, cg, cb, cw⟩)) ∧ Hid (RdrR wr g u B q2 0) ∧ Hid (Blk wr ix 54 #[.int .i32 cr, .int .i64 cf, .int .i64 cg, .int .i64 cb, .int .i64 cw]) ∧ Hid (¬ blkOf (.slice a' M c') ix) ∧ Hid (Chg w wr (fun k => k = g))) (fun _ iv _ => k - (intOf iv).toNat)
          case atStart => exact ⟨0, L, _, c, Nat.zero_le _, rfl, rfl, Lib.hid rfl, Lib.hid (by rw [List.replicate_zero, List.append_nil]; exact HL.out), HR1, HX, HNB, HC⟩
          case round =>
            clear HL HR1 HX HNB HC
            obtain ⟨j, M, a', c', hj, rfl, rfl, HM, HL, HR1, HX, HNB, HC⟩ := hrel
            by_cases hjk : j < k
            · have hji : (j : Int) < (k : Int) := by omega
              have hj0 : (0 : Int) ≤ (j : Int) := by omega
              have x0 := HX.out.cell 0
              have x1 := HX.out.cell 1
              have x2 := HX.out.cell 2
              have x3 := HX.out.cell 3
              have x4 := HX.out.cell 4
              simp only [List.getElem?_toArray, List.getElem?_cons_zero, List.getElem?_cons_succ] at x0 x1 x2 x3 x4
              have HOW : Hid (Own wr 54 5 (.slice a' M c') M (cellsV (out ++ List.replicate j ⟨cr, cf, cg, cb, cw⟩))) := Lib.hid (by
                have h := HL.out.1
                rwa [show (out ++ List.replicate j (⟨cr, cf, cg, cb, cw⟩ : Ce)).length = M by rw [List.length_append, List.length_replicate, HLen.out, HM.out]] at h)
              go_wp2_with (at_builtin; refine wpList_push rfl (.tmp 39) (.tmp 41) 24 rfl 54 (.agg #[.int .i32 0, .int .i64 0, .int .i64 0, .int .i64 0, .int .i64 0]) 5 40 i_cell u_cells rfl (by decide) (.slice a' M c') M _ rfl HOW.out 1 1 rfl rfl rfl (by unfold maxLen; have := HM.out; omega) (by have := HM.out; omega) ?_)
              intro v' w5 ho hch hfo
              have hrow := HR1.out.row HL.out hch
              have hlen2 : (out ++ List.replicate (j + 1) (⟨cr, cf, cg, cb, cw⟩ : Ce)).length = M + 1 := by rw [List.length_append, List.length_replicate, HLen.out, HM.out]; omega
              have hcs : Cs w w5 v' (out ++ List.replicate (j + 1) ⟨cr, cf, cg, cb, cw⟩) := ⟨by
                rw [hlen2, List.replicate_succ', ← List.append_assoc, cellsV_snoc]
                exact ho, fun i hi => (hfo i hi).elim (fun h => HL.out.2 i h) (fun h => Nat.le_trans HC.out.size h)⟩
              have hnb : ¬ blkOf v' ix := fun h => (hfo ix h).elim HNB.out (fun h => by have := HX.out.lt; omega)
              have hx5 := HX.out.kept hch HNB.out
              have hc5 : Chg w w5 (fun k => k = g) := HC.out.trans hch (fun i hi h => absurd (HL.out.2 i h) (by omega))
              obtain ⟨a5, c5, e5, _⟩ := ho.form
              subst e5
              have HREL := Lib.hid (And.intro hcs (And.intro hrow (And.intro hx5 (And.intro hnb hc5))))
              clear ho hch hfo hrow hlen2 hcs hnb hx5 hc5 x0 x1 x2 x3 x4
              go_wp2
              go_roundw
              case rel => exact ⟨j + 1, M + 1, a5, c5, by omega, by go_num, rfl, Lib.hid (by have := HM.out; omega), Lib.hid HREL.out.1, Lib.hid HREL.out.2.1, Lib.hid HREL.out.2.2.1, Lib.hid HREL.out.2.2.2.1, Lib.hid HREL.out.2.2.2.2⟩
              case measure => simp [intOf]; omega
            · obtain rfl : j = k := by omega
              have hML := HM.out
              have hfu := HF.out
              have hMn : M ≤ n := by omega
              have hMf : n ≤ M + fu' := by omega
              have hML2 : L < M := by omega
              clear hML hfu
              go_wp2
              go_roundw
              case rel => exact ⟨fu', out ++ List.replicate j ⟨cr, cf, cg, cb, cw⟩, q2, M, a', c', rfl, hMn, Lib.hid (by rw [List.length_append, List.length_replicate, HLen.out, HM.out]), Lib.hid hMf, HL, HN, Lib.hid (by rw [HE0.out]; exact HR1.out), Lib.hid (.inl HE0.out), HC⟩
              case measure => simp [lenV]; omega
    · obtain rfl : L = n := by omega
      have HRP : Hid (RP = some (out, B.drop q)) := Lib.hid (by
        rw [HQ1.out]
        cases fu with
        | zero => rw [cellsQ, if_pos (by rw [HLen.out]; exact Nat.le_refl _)]
        | succ f => rw [cellsQ, if_pos (by rw [HLen.out]; exact Nat.le_refl _)])
      go_wp2
      go_ret
      exact ⟨HC.out, _, _, HR1.out, .inl ⟨rfl, HE.out.imp (fun h => h) (fun h => by rw [← HLen.out, h]; rfl), _, _, rfl, HL.out, HRP.out⟩⟩
end Go.Proofs.YtiojhfaeeelfeaaDoor
