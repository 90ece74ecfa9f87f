
/-
  slices.Repeat of one cell; a blank screen.
-/
import Derived.Test.YtioabdoghophlaaDoorCopy
import Derived.Test.YtioabdoghophlaaDoorMul
import Derived.Test.YtioabdoghophlaaDoorScr2
import Derived.Lib.EndianBits
namespace Go.Proofs.YtioabdoghophlaaDoor
open Go.RowKit
set_option linter.unusedVariables false
set_option linter.unusedSimpArgs false

theorem i_cell : (Tryd.prog.info? 29).map (fun i => (i.zero, i.size, i.bytes)) = some (some (.agg #[.int .i32 0, .int .i64 0, .int .i64 0, .int .i64 0, .int .i64 0]), 5, 40) := by kernel_rfl
theorem cellsV_one (l : List Ce) : ∀ u ∈ cellsV l, u.oneCell' = true := fun u hu => by
  obtain ⟨c, _, h⟩ := List.mem_flatMap.1 hu
  simp only [Ce.cs, List.mem_cons, List.not_mem_nil, or_false] at h
  rcases h with rfl | rfl | rfl | rfl | rfl <;> rfl
theorem cellsV_app (a b : List Ce) : cellsV (a ++ b) = cellsV a ++ cellsV b := by simp [cellsV]
theorem u_cells' : Tryd.prog.underlying 22 = some (.slice 29) := by kernel_rfl
theorem make_cells (w : World) (m : Nat) (h : m ≤ 100000) : ∃ wm Z, (Instr.makeSlice 22 (.int .i64 m) (.int .i64 m)).run Tryd.prog w = .ok (.slice (some ⟨w.heap.size, 0, none⟩) m m) wm ∧ Blk wm w.heap.size 29 Z ∧ Z.size = m * 5 ∧ Chg w wm nob := by
  obtain ⟨i, hi, hz, hsize, hby⟩ := info_parts i_cell
  have hr := run_make (P := Tryd.prog) w 22 29 i _ u_cells' hi hz .i64 .i64 m m (by omega) (Int.le_refl _) (by rw [hby]; omega) (by omega)
  simp only [Int.toNat_natCast] at hr
  exact ⟨_, _, hr, Blk.new w _ _, by rw [size_madeCells, hsize], (Chg.refl w nob).alloc _⟩
theorem rep_len (k : Nat) (c : Ce) : (cellsV (List.replicate k c)).length = k * 5 := by rw [cellsV_len, List.length_replicate]
theorem rep_add (a b : Nat) (c : Ce) : cellsV (List.replicate (a + b) c) = cellsV (List.replicate a c) ++ cellsV (List.replicate b c) := by rw [← List.replicate_append_replicate, cellsV_app]
theorem over_rep {cu : List Value} {n k : Nat} {c : Ce} (h : cu.take (n * 5) = cellsV (List.replicate n c)) (hl : (n + k) * 5 ≤ cu.length) : (over cu (n * 5) (cellsV (List.replicate k c))).take ((n + k) * 5) = cellsV (List.replicate (n + k) c) := by
  have e : (n + k) * 5 = (cellsV (List.replicate n c) ++ cellsV (List.replicate k c)).length := by rw [List.length_append, rep_len, rep_len]; omega
  rw [over, h, rep_add, e]
  exact List.take_left
theorem rep_at {cu : List Value} {n k : Nat} {c : Ce} (h : cu.take (n * 5) = cellsV (List.replicate n c)) (hk : k ≤ n) (j : Nat) (v : Value) (hj : (cellsV (List.replicate k c))[j]? = some v) : cu[j]? = some v := by
  have hjl := (List.getElem?_eq_some_iff.1 hj).1
  rw [rep_len] at hjl
  have e : (cu.take (n * 5))[j]? = cu[j]? := List.getElem?_take_of_lt (by omega)
  rw [← e, h, show n = k + (n - k) by omega, rep_add, List.getElem?_append_left (by rw [rep_len]; exact hjl)]
  exact hj
set_option maxHeartbeats 4000000 in
set_option maxRecDepth 100000 in
/-- One cell, m times. -/
theorem repeat_any (w : World) (c : Ce) (va : Value) (m : Nat) (ha : Rd w 5 va 1 (cellsV [c])) (h1 : 1 ≤ m) (h2 : m ≤ 100000) : Calls Tryd.prog 77 #[va, .int .i64 m] w fun e w' =>
    ∃ v, e = .returned v ∧ Own w' 29 5 v m (cellsV (List.replicate m c)) ∧ Chg w w' nob ∧ ∀ k, blkOf v k → w.heap.size ≤ k := by
  obtain ⟨a1, c1, rfl, hn1, hx, hcl⟩ := ha
  have HC := Lib.hid hcl
  clear hcl
  obtain ⟨g, o, rfl, _⟩ := HC.out 0 (.int .i32 c.r) rfl
  have hmul := mul_any w 1 m (by omega) (by omega) (by omega)
  rw [Nat.one_mul] at hmul
  have HM := Lib.hid hmul
  obtain ⟨wm, Z, hmk, hbm, hzs, hcm⟩ := make_cells w m h2
  have HBM := Lib.hid hbm
  have HCM := Lib.hid hcm
  have HSR : Hid (∀ (j : Nat) (v : Value), (cellsV [c])[j]? = some v → wm.cell? ((⟨g, o, none⟩ : Addr).add j) = some v) := Lib.hid (fun j v hv => by
    obtain ⟨b, o', he, hc⟩ := HC.out j v hv
    cases he
    rw [Addr.add_lit]
    exact hcm.cell hc id)
  have hul : (1 : Int) ≤ (m : Int) := by omega
  clear hmul hbm hcm
  go_enter Tryd.func77, Tryd.ntmps77
  go_wp2_with fail
  go_at_call 106
  refine HM.out.mono ?_
  rintro e w' ⟨rfl, rfl⟩
  go_wp2_with (refine wpList_copy rfl (.tmp 31) (.tmp 32) 22 22 rfl 29 5 u_cells' (by kernel_rfl) _ 0 m m ⟨g, o, none⟩ 1 c1 rfl rfl Z _ HBM.out (cellsV [c]) 1 (by (show 1 = min 1 m); omega) rfl HSR.out (by rw [hzs]; (show 0 + 5 ≤ m * 5); omega) (cellsV_one _) ?_)
  intro w1 hb1 hc1
  have hHZ : Hid ((over Z.toList 0 (cellsV [c])).take 5 = cellsV (List.replicate 1 c)) := Lib.hid (by simp [over, cellsV, Ce.cs])
  have hHS : Hid ((over Z.toList 0 (cellsV [c])).length = m * 5) := Lib.hid (by rw [over_len (by simp [cellsV, Ce.cs]; omega)]; simpa using hzs)
  obtain ⟨cur, hcur⟩ : ∃ cur, over Z.toList 0 (cellsV [c]) = cur := ⟨_, rfl⟩
  rw [hcur] at hb1 hHZ hHS
  have HB1 := Lib.hid hb1
  have HC1 : Hid (Chg w' w1 nob) := Lib.hid (HCM.out.trans hc1 (fun i hi h => by subst h; exact absurd hi (Nat.lt_irrefl _)))
  have hm0 : ¬ m = 0 := by omega
  clear hb1 hc1 hcur
  go_wp2_with fail
  go_loopw [8] (fun nv wr => ∃ (n : Nat) (cu : List Value), 1 ≤ n ∧ n ≤ m ∧ nv = .int .i64 n ∧ Hid (Blk wr w'.heap.size 29 cu.toArray) ∧ Hid (cu.take (n * 5) = cellsV (List.replicate n c)) ∧ Hid (cu.length = m * 5) ∧ Hid (Chg w' wr nob)) (fun nv _ => m - (intOf nv).toNat)
  case atStart => exact ⟨1, cur, Nat.le_refl _, h1, rfl, HB1, hHZ, hHS, HC1⟩
  case round =>
    obtain ⟨n, cu, hn1, hnm, rfl, HB, HTK, HLN, HC2⟩ := hrel
    by_cases hlt : n < m
    · have hlti : (n : Int) < (m : Int) := by omega
      have hn0 : (0 : Int) ≤ (n : Int) := by omega
      have hne : ¬ m = n := by omega
      have hle : (n : Int) ≤ (m : Int) := by omega
      go_wp2_with fail
      refine wp_one [] [7] [] [0, 1, 2, 3, 4, 5, 6, 7, 8, 9] rfl (by kernel_rfl) (fun _ _ _ _ _ h => h) ?_; simp only [List.map_cons, List.map_nil, List.getElem?_toArray, List.getElem?_cons_zero, List.getElem?_cons_succ]
      (repeat (first | (apply can0; (· rfl); (· rfl); (· (intro w'; first | (go_simp; with_reducible rfl) | (go_simp; done))); simp only [Act.put, List.setIfInBounds_toArray, List.set_cons_zero, List.set_cons_succ]) | (apply can1; (· rfl); (· rfl); (· (first | (go_simp; with_reducible rfl) | (go_simp; done))); simp only [Act.put, List.setIfInBounds_toArray, List.set_cons_zero, List.set_cons_succ]) | (apply canN; (· rfl); (· rfl); simp only [Act.put, List.setIfInBounds_toArray, List.set_cons_zero, List.set_cons_succ]) | (apply canN1; (· rfl); (· rfl); simp only [Act.put, List.setIfInBounds_toArray, List.set_cons_zero, List.set_cons_succ]) | (apply can0; (· rfl); (· (go_simp; done)); (· (intro w'; first | (go_simp; with_reducible rfl) | (go_simp; done))); simp only [Act.put, List.setIfInBounds_toArray, List.set_cons_zero, List.set_cons_succ]) | (apply can1; (· rfl); (· (go_simp; done)); (· (first | (go_simp; with_reducible rfl) | (go_simp; done))); simp only [Act.put, List.setIfInBounds_toArray, List.set_cons_zero, List.set_cons_succ]) | (apply canN; (· rfl); (· (go_simp; done)); simp only [Act.put, List.setIfInBounds_toArray, List.set_cons_zero, List.set_cons_succ]) | (apply canN1; (· rfl); (· (go_simp; done)); simp only [Act.put, List.setIfInBounds_toArray, List.set_cons_zero, List.set_cons_succ])))
      obtain ⟨k, hk⟩ : ∃ k, min n (m - n) = k := ⟨_, rfl⟩
      have hk1 : 1 ≤ k ∧ k ≤ n ∧ n + k ≤ m := by omega
      obtain ⟨k1, k2, k3⟩ := hk1
      have HKK := Lib.hid hk
      clear hk
      refine canW rfl [] rfl (fun K hK => ?_)
      rw [if_pos (by rfl)]
      refine wp_copy (.tmp 41) (.tmp 44) 22 22 rfl 29 5 u_cells' (by kernel_rfl) w'.heap.size (n * 5) (m - n) (m - n) ⟨w'.heap.size, 0, none⟩ n m (by first | rfl | (simp [Act.eval]; done)) (by first | rfl | (simp [Act.eval]; done)) cu.toArray _ HB.out.drew (cellsV (List.replicate k c)) k HKK.out.symm (rep_len k c) ?_ ?_ (cellsV_one _) ?_
      · intro j v hj
        rw [Addr.add_lit, Nat.zero_add, (HB.out.drew).cell]
        simpa using rep_at HTK.out k2 j v hj
      · rw [rep_len]
        have := HLN.out
        simp only [List.size_toArray]
        omega
      · intro w2 hb2 hc2
        have hw : IntKind.i64.wrap ((n : Int) + (k : Int)) = ((n + k : Nat) : Int) := by rw [show ((n : Int) + (k : Int)) = ((n + k : Nat) : Int) by omega]; simp only [IntKind.wrap, IntKind.bits, IntKind.signed]; simp; omega
        have HB2 : Hid (Blk w2 w'.heap.size 29 (over cu (n * 5) (cellsV (List.replicate k c))).toArray) := Lib.hid (by simpa using hb2)
        have HTK2 := Lib.hid (over_rep (k := k) HTK.out (by rw [HLN.out]; omega))
        have HLN2 := Lib.hid (show (over cu (n * 5) (cellsV (List.replicate k c))).length = m * 5 by rw [over_len (by rw [rep_len, HLN.out]; omega)]; exact HLN.out)
        have HC3 : Hid (Chg w' w2 nob) := Lib.hid (HC2.out.drew.trans hc2 (fun i hi h => by subst h; exact absurd hi (Nat.lt_irrefl _)))
        clear hb2 hc2
        obtain ⟨cu2, hcu2⟩ : ∃ cu2, over cu (n * 5) (cellsV (List.replicate k c)) = cu2 := ⟨_, rfl⟩
        rw [hcu2] at HB2 HTK2 HLN2
        clear hcu2
        simp only [goInt]
        (refine hK _ _ (fun u hu => by cases hu) ?_; clear hK K; try simp only [Act.put, List.setIfInBounds_toArray, List.set_cons_zero, List.set_cons_succ])
        (repeat (first | (apply can0; (· rfl); (· rfl); (· (intro w'; first | (go_simp; with_reducible rfl) | (go_simp; done))); simp only [Act.put, List.setIfInBounds_toArray, List.set_cons_zero, List.set_cons_succ]) | (apply can1; (· rfl); (· rfl); (· (first | (go_simp; with_reducible rfl) | (go_simp; done))); simp only [Act.put, List.setIfInBounds_toArray, List.set_cons_zero, List.set_cons_succ]) | (apply canN; (· rfl); (· rfl); simp only [Act.put, List.setIfInBounds_toArray, List.set_cons_zero, List.set_cons_succ]) | (apply canN1; (· rfl); (· rfl); simp only [Act.put, List.setIfInBounds_toArray, List.set_cons_zero, List.set_cons_succ]) | (apply can0; (· rfl); (· (go_simp; done)); (· (intro w'; first | (go_simp; with_reducible rfl) | (go_simp; done))); simp only [Act.put, List.setIfInBounds_toArray, List.set_cons_zero, List.set_cons_succ]) | (apply can1; (· rfl); (· (go_simp; done)); (· (first | (go_simp; with_reducible rfl) | (go_simp; done))); simp only [Act.put, List.setIfInBounds_toArray, List.set_cons_zero, List.set_cons_succ]) | (apply canN; (· rfl); (· (go_simp; done)); simp only [Act.put, List.setIfInBounds_toArray, List.set_cons_zero, List.set_cons_succ]) | (apply canN1; (· rfl); (· (go_simp; done)); simp only [Act.put, List.setIfInBounds_toArray, List.set_cons_zero, List.set_cons_succ])))
        refine canE ?_
        go_wp2
        go_roundw
        case rel => exact ⟨n + k, cu2, by omega, by omega, by go_num, HB2, HTK2, HLN2, HC3⟩
        case measure => simp [intOf]; omega
    · obtain rfl : n = m := by omega
      go_wp2
      go_ret
      refine ⟨_, rfl, ?_, HC2.out, fun k hk => by cases hk; exact Nat.le_refl _⟩
      refine ⟨rep_len _ _, .inr ⟨w'.heap.size, n, cu.toArray, rfl, Nat.zero_le _, HB.out, Nat.le_refl _, by unfold maxLen; omega, by simpa using HLN.out, by simpa using HTK.out⟩⟩
end Go.Proofs.YtioabdoghophlaaDoor
