
/-
  bytes.Repeat of one byte; a padded key.
-/
import Derived.Test.YtcgdmidjejmjhaaDoorMul
import Derived.Test.YtcgdmidjejmjhaaDoorCopy
import Derived.Test.YtcgdmidjejmjhaaDoorMac6
import Derived.Lib.MakeNoZero
import Derived.Laws.Externs
import Derived.Deep.Upon
namespace Go.Proofs.YtcgdmidjejmjhaaDoor
open Go.RowKit
set_option linter.unusedVariables false
set_option linter.unusedSimpArgs false

theorem wr_i64 (n : Int) (h0 : 0 ≤ n) (h1 : n < 1000000) : IntKind.i64.wrap n = n := by simp only [IntKind.wrap, IntKind.bits, IntKind.signed]; simp; omega
/-- n bytes, one and the same, at the head of a row that may go on behind them. -/
def Fu (w w' : World) (v : Value) (L : List Int) : Prop :=
  ∃ g cs, v = .slice (some ⟨g, 0, none⟩) L.length L.length ∧ Blk w' g 5 cs ∧ cs.toList.take L.length = bytesV L ∧ L.length ≤ cs.size ∧ w.heap.size ≤ g ∧ Chg w w' nob
theorem over_same {cu : List Value} {x : Int} {n k m : Nat} (h : cu.take n = bytesV (List.replicate n x)) (hl : n + k ≤ cu.length) : (over cu n (bytesV (List.replicate k x))).take (n + k) = bytesV (List.replicate (n + k) x) := by
  have hn : n ≤ cu.length := by omega
  unfold over
  rw [h]
  have e : (bytesV (List.replicate n x) ++ bytesV (List.replicate k x)).length = n + k := by simp [bytesV]
  rw [List.take_append_of_le_length (by omega), List.take_of_length_le (by omega)]
  simp [bytesV, List.replicate_append_replicate]
theorem same_at {cu : List Value} {x : Int} {n k : Nat} (h : cu.take n = bytesV (List.replicate n x)) (hk : k ≤ n) (j : Nat) (v : Value) (hj : (bytesV (List.replicate k x))[j]? = some v) : cu[j]? = some v := by
  have hjk : j < k := by have := (List.getElem?_eq_some_iff.1 hj).1; simpa [bytesV] using this
  have h1 : (cu.take n)[j]? = some v := by
    rw [h]
    rw [bytesV, List.getElem?_map, List.getElem?_replicate, if_pos (by omega)]
    rw [bytesV, List.getElem?_map, List.getElem?_replicate, if_pos hjk] at hj
    exact hj
  rwa [List.getElem?_take_of_lt (by omega)] at h1
set_option maxRecDepth 100000 in
theorem nozero (w : World) : ∃ cs : Array Value, (callFunc 44 #[.int .i64 64]).run Tryd.prog w = .ok (.value (.slice (some ⟨w.heap.size, 0, none⟩) 64 cs.size)) ((w.alloc (.cells cs 5)).drewN 2) ∧ 64 ≤ cs.size := by
  obtain ⟨cs, hrunM, hle, _⟩ := Lib.run_makeNoZero (P := Tryd.prog) w #[3] 22 5 u_bytes 64 (by omega)
  refine ⟨cs, ?_, hle⟩
  have h := run_callFunc_extern (P := Tryd.prog) (f := 44) (fn := Tryd.f44) (e := Extern.BytealgMakeNoZero.makeNoZero #[3] #[22]) (by kernel_rfl) (by kernel_rfl) (by kernel_rfl) (by kernel_rfl) (by kernel_rfl) #[.int .i64 64] w
  rw [h]
  rw [show (.int .i64 64 : Value) = .int .i64 ((64 : Nat) : Int) from rfl, hrunM]
  rfl
set_option maxRecDepth 100000 in
set_option maxHeartbeats 4000000 in
theorem brep_any (w : World) (x : Int) (va : Value) (ha : Rd w 1 va 1 (bytesV [x])) :
    Calls Tryd.prog 43 #[va, .int .i64 64] w fun e w' => ∃ v, e = .returned v ∧ Fu w w' v (List.replicate 64 x) := by
  obtain ⟨a1, c1, rfl, hn1, hx, hcl⟩ := ha
  have HC := Lib.hid hcl
  clear hcl
  obtain ⟨g, o, rfl, _⟩ := HC.out 0 (.int .u8 x) rfl
  have hmul := mul_any w 1 64 (by omega) (by omega) (by omega)
  have HM := Lib.hid hmul
  obtain ⟨cs, hnz, hcs⟩ := nozero w
  obtain ⟨wz, hwz⟩ : ∃ wz, (w.alloc (.cells cs 5)).drewN 2 = wz := ⟨_, rfl⟩
  have hbz : Blk wz w.heap.size 5 cs := by rw [← hwz]; exact Blk.new w _ _
  have hcz : Chg w wz nob := by rw [← hwz]; exact ((Chg.refl w nob).alloc _).drewN 2
  rw [hwz] at hnz
  have HBZ := Lib.hid hbz
  have HCZ := Lib.hid hcz
  have HSR : Hid (∀ (j : Nat) (v : Value), (bytesV [x])[j]? = some v → wz.cell? ((⟨g, o, none⟩ : Addr).add j) = some v) := Lib.hid (fun j v hv => by
    obtain ⟨b, o', he, hc⟩ := HC.out j v hv
    cases he
    rw [Addr.add_lit]
    exact hcz.cell hc id)
  obtain ⟨c, hcc⟩ : ∃ c, cs.size = c := ⟨_, rfl⟩
  rw [hcc] at hnz hcs
  have HCC := Lib.hid hcc
  have hci : (64 : Int) ≤ (c : Int) := by omega
  clear hmul hbz hcz hwz hcc
  go_enter Tryd.func43, Tryd.ntmps43
  go_wp2_with fail
  go_at_call 49
  refine HM.out.mono ?_
  rintro e w' ⟨rfl, rfl⟩
  go_wp2_with (refine wpList_copy rfl (.tmp 58) (.tmp 59) 22 22 rfl 5 1 u_bytes (by kernel_rfl) w'.heap.size 0 64 64 ⟨g, o, none⟩ 1 c1 rfl rfl cs _ HBZ.out (bytesV [x]) 1 (by (show 1 = min 1 64); omega) rfl HSR.out (by (show 0 + 1 ≤ cs.size); rw [HCC.out]; omega) (bytes_one _) ?_)
  intro w1 hb1 hc1
  have hHZ : Hid ((over cs.toList 0 (bytesV [x])).take 1 = bytesV (List.replicate 1 x)) := Lib.hid (by simp [over, bytesV])
  have hHS : Hid ((over cs.toList 0 (bytesV [x])).length = c) := Lib.hid (by rw [over_len (by simp [bytesV, HCC.out]; omega)]; simpa using HCC.out)
  obtain ⟨cur, hcur⟩ : ∃ cur, over cs.toList 0 (bytesV [x]) = cur := ⟨_, rfl⟩
  rw [hcur] at hb1 hHZ hHS
  have HB1 := Lib.hid hb1
  have HC1 : Hid (Chg w' w1 nob) := Lib.hid (HCZ.out.trans hc1 (fun i hi h => by subst h; exact absurd hi (Nat.lt_irrefl _)))
  clear hb1 hc1 hcur
  go_wp2_with fail
  go_loopw [10, 11] (fun nv _ wr => ∃ (n : Nat) (cu : List Value), 1 ≤ n ∧ n ≤ 64 ∧ nv = .int .i64 n ∧ Hid (Blk wr w'.heap.size 5 cu.toArray) ∧ Hid (cu.take n = bytesV (List.replicate n x)) ∧ Hid (cu.length = c) ∧ Hid (Chg w' wr nob)) (fun nv _ _ => 64 - (intOf nv).toNat)
  case atStart => exact ⟨1, cur, Nat.le_refl _, by omega, rfl, HB1, hHZ, hHS, HC1⟩
  case round =>
    obtain ⟨n, cu, hn1, hnm, rfl, HB, HTK, HLN, HC2⟩ := hrel
    clear HB1 hHZ hHS HC1
    by_cases hlt : n < 64
    · have hlti : (n : Int) < 64 := by omega
      have hn0 : (0 : Int) ≤ (n : Int) := by omega
      have hne : ¬ 64 = n := by omega
      have hle : (n : Int) ≤ 64 := by omega
      have hmin : min (n : Int) 64 = (n : Int) := by omega
      go_wp2_with fail
      refine wp_one [] [7] [] [0, 1, 2, 3, 4, 5, 6, 7, 8, 9] rfl (by kernel_rfl) (fun _ _ _ _ _ h => h) ?_; simp only [List.map_cons, List.map_nil, List.getElem?_toArray, List.getElem?_cons_zero, List.getElem?_cons_succ]
      (repeat (first | (apply can0; (· rfl); (· rfl); (· (intro w'; first | (go_simp; with_reducible rfl) | (go_simp; done))); simp only [Act.put, List.setIfInBounds_toArray, List.set_cons_zero, List.set_cons_succ]) | (apply can1; (· rfl); (· rfl); (· (first | (go_simp; with_reducible rfl) | (go_simp; done))); simp only [Act.put, List.setIfInBounds_toArray, List.set_cons_zero, List.set_cons_succ]) | (apply canN; (· rfl); (· rfl); simp only [Act.put, List.setIfInBounds_toArray, List.set_cons_zero, List.set_cons_succ]) | (apply canN1; (· rfl); (· rfl); simp only [Act.put, List.setIfInBounds_toArray, List.set_cons_zero, List.set_cons_succ]) | (apply can0; (· rfl); (· (go_simp; done)); (· (intro w'; first | (go_simp; with_reducible rfl) | (go_simp; done))); simp only [Act.put, List.setIfInBounds_toArray, List.set_cons_zero, List.set_cons_succ]) | (apply can1; (· rfl); (· (go_simp; done)); (· (first | (go_simp; with_reducible rfl) | (go_simp; done))); simp only [Act.put, List.setIfInBounds_toArray, List.set_cons_zero, List.set_cons_succ]) | (apply canN; (· rfl); (· (go_simp; done)); simp only [Act.put, List.setIfInBounds_toArray, List.set_cons_zero, List.set_cons_succ]) | (apply canN1; (· rfl); (· (go_simp; done)); simp only [Act.put, List.setIfInBounds_toArray, List.set_cons_zero, List.set_cons_succ])))
      obtain ⟨k, hk⟩ : ∃ k, min n (64 - n) = k := ⟨_, rfl⟩
      have hk1 : 1 ≤ k ∧ k ≤ n ∧ n + k ≤ 64 := by omega
      obtain ⟨k1, k2, k3⟩ := hk1
      have HKK := Lib.hid hk
      clear hk
      refine canW rfl [] rfl (fun K hK => ?_)
      rw [if_pos (by rfl)]
      refine wp_copy (.tmp 70) (.tmp 73) 22 22 rfl 5 1 u_bytes (by kernel_rfl) w'.heap.size n (64 - n) (64 - n) ⟨w'.heap.size, 0, none⟩ n 64 (by first | rfl | (simp [Act.eval]; done)) (by first | rfl | (simp [Act.eval]; done)) cu.toArray _ HB.out.drew (bytesV (List.replicate k x)) k HKK.out.symm (by simp [bytesV]) ?_ ?_ (bytes_one _) ?_
      · intro j v hj
        rw [Addr.add_lit, Nat.zero_add, (HB.out.drew).cell]
        simpa using same_at HTK.out k2 j v hj
      · have := HLN.out
        simp [bytesV]
        omega
      · intro w2 hb2 hc2
        have hw : IntKind.i64.wrap ((n : Int) + (k : Int)) = ((n + k : Nat) : Int) := by rw [show ((n : Int) + (k : Int)) = ((n + k : Nat) : Int) by omega]; exact wr_i64 _ (by omega) (by omega)
        have HB2 : Hid (Blk w2 w'.heap.size 5 (over cu n (bytesV (List.replicate k x))).toArray) := Lib.hid (by simpa using hb2)
        have HTK2 := Lib.hid (over_same (k := k) (m := 0) HTK.out (by rw [HLN.out]; omega))
        have HLN2 := Lib.hid (show (over cu n (bytesV (List.replicate k x))).length = c by rw [over_len (by simp [bytesV, HLN.out]; omega)]; exact HLN.out)
        have HC3 : Hid (Chg w' w2 nob) := Lib.hid (HC2.out.drew.trans hc2 (fun i hi h => by subst h; exact absurd hi (Nat.lt_irrefl _)))
        clear hb2 hc2
        obtain ⟨cu2, hcu2⟩ : ∃ cu2, over cu n (bytesV (List.replicate k x)) = cu2 := ⟨_, rfl⟩
        rw [hcu2] at HB2 HTK2 HLN2
        clear hcu2
        simp only [goInt]
        (refine hK _ _ (fun u hu => by cases hu) ?_; clear hK K; try simp only [Act.put, List.setIfInBounds_toArray, List.set_cons_zero, List.set_cons_succ])
        (repeat (first | (apply can0; (· rfl); (· rfl); (· (intro w'; first | (go_simp; with_reducible rfl) | (go_simp; done))); simp only [Act.put, List.setIfInBounds_toArray, List.set_cons_zero, List.set_cons_succ]) | (apply can1; (· rfl); (· rfl); (· (first | (go_simp; with_reducible rfl) | (go_simp; done))); simp only [Act.put, List.setIfInBounds_toArray, List.set_cons_zero, List.set_cons_succ]) | (apply canN; (· rfl); (· rfl); simp only [Act.put, List.setIfInBounds_toArray, List.set_cons_zero, List.set_cons_succ]) | (apply canN1; (· rfl); (· rfl); simp only [Act.put, List.setIfInBounds_toArray, List.set_cons_zero, List.set_cons_succ]) | (apply can0; (· rfl); (· (go_simp; done)); (· (intro w'; first | (go_simp; with_reducible rfl) | (go_simp; done))); simp only [Act.put, List.setIfInBounds_toArray, List.set_cons_zero, List.set_cons_succ]) | (apply can1; (· rfl); (· (go_simp; done)); (· (first | (go_simp; with_reducible rfl) | (go_simp; done))); simp only [Act.put, List.setIfInBounds_toArray, List.set_cons_zero, List.set_cons_succ]) | (apply canN; (· rfl); (· (go_simp; done)); simp only [Act.put, List.setIfInBounds_toArray, List.set_cons_zero, List.set_cons_succ]) | (apply canN1; (· rfl); (· (go_simp; done)); simp only [Act.put, List.setIfInBounds_toArray, List.set_cons_zero, List.set_cons_succ])))
        refine canE ?_
        go_wp2
        go_roundw
        case rel => exact ⟨n + k, cu2, by omega, by omega, by go_num, HB2, HTK2, HLN2, HC3⟩
        case measure => simp [intOf]; omega
    · obtain rfl : n = 64 := by omega
      go_wp2
      go_ret
      exact ⟨_, rfl, w'.heap.size, cu.toArray, rfl, HB.out, by simpa using HTK.out, by have := HLN.out; simp; omega, Nat.le_refl _, HC2.out⟩
/-- A row of one byte whose first i were turned by k's. -/
def xoN (by_ : Int) (k : List Int) (i : Nat) : List Int := (List.range 64).map fun j => if j < i then bits .xor .u8 by_ (k.getD j 0) else by_
theorem xoN_zero (by_ : Int) (k : List Int) : xoN by_ k 0 = List.replicate 64 by_ := by
  apply List.ext_getElem?
  intro j
  by_cases h : j < 64
  · rw [List.getElem?_replicate, if_pos h]; simp [xoN, h]
  · rw [List.getElem?_eq_none (by simp [xoN]; omega), List.getElem?_eq_none (by rw [List.length_replicate]; omega)]
theorem xoN_at (by_ : Int) (k : List Int) {i : Nat} (h : i < 64) : (xoN by_ k i)[i]? = some by_ := by simp [xoN, h]
theorem xoN_set (by_ : Int) (k : List Int) {i : Nat} (h : i < 64) : (xoN by_ k i).set i (bits .xor .u8 by_ (k.getD i 0)) = xoN by_ k (i + 1) := by
  apply List.ext_getElem?
  intro j
  by_cases hj : j = i
  · subst hj
    rw [List.getElem?_set_self (by simp [xoN]; omega)]
    simp [xoN, h]
  · rw [List.getElem?_set_ne (by omega)]
    by_cases h3 : j < 64
    · simp only [xoN, List.getElem?_map, List.getElem?_range h3, Option.map_some]
      by_cases h4 : j < i
      · rw [if_pos h4, if_pos (by omega)]
      · rw [if_neg h4, if_neg (by omega)]
    · rw [List.getElem?_eq_none (by simp [xoN]; omega), List.getElem?_eq_none (by simp [xoN]; omega)]
theorem xoN_end (by_ : Int) (k : List Int) (h0 : bits .xor .u8 by_ 0 = by_) : xoN by_ k k.length = (List.range 64).map fun i => bits .xor .u8 by_ (k.getD i 0) := by
  unfold xoN
  refine List.map_congr_left fun j _ => ?_
  by_cases h : j < k.length
  · rw [if_pos h]
  · rw [if_neg h, List.getD, List.getElem?_eq_none (by omega), Option.getD_none, h0]
theorem xoN_len (by_ : Int) (k : List Int) (i : Nat) : (xoN by_ k i).length = 64 := by simp [xoN]
set_option maxRecDepth 100000 in
set_option maxHeartbeats 4000000 in
theorem padded_any (w : World) (va : Value) (xs : List Int) (by_ : Int) (h0 : bits .xor .u8 by_ 0 = by_) (ht : Tab w) (ha : Rd w 1 va xs.length (bytesV xs)) (hn : NilOk va) (hb : ∀ x ∈ xs, 0 ≤ x ∧ x ≤ 255) (hl : xs.length ≤ 1000000) :
    Calls Tryd.prog 38 #[va, .int .u8 by_] w fun e w' => ∃ v, e = .returned v ∧ Fu w w' v (paddedL xs by_) := by
  obtain ⟨ao, cap, rfl, hc, hlen⟩ := ha.form
  have hn0 : (0 : Int) ≤ (xs.length : Int) := by omega
  by_cases h64 : xs.length ≤ 64
  · have hi64 : (xs.length : Int) ≤ 64 := by omega
    have HPD : Hid (paddedL xs by_ = xoN by_ xs xs.length) := Lib.hid (by rw [xoN_end by_ xs h0, paddedL]; simp only [if_pos h64])
    have HK := Lib.hid ha
    have HC1 : Hid (Chg w w nob) := Lib.hid (Chg.refl _ _)
    clear ha hb ht hn
    go_enter Tryd.func38, Tryd.ntmps38
    go_wp2_with fail
    go_at_call 43
    refine (brep_any (w.alloc (.cells #[.int .u8 by_] 5)) by_ _ (Rd.lit w [by_])).mono ?_
    rintro e w2 ⟨v2, rfl, g, cs, rfl, hbg, htk, hcl, hgf, hcg⟩
    have HBG : Hid (Blk w2 g 5 cs.toList.toArray) := Lib.hid (by rw [Array.toArray_toList]; exact hbg)
    rw [List.length_replicate, ← xoN_zero by_ xs] at htk
    rw [List.length_replicate] at hcl
    have HTK := Lib.hid htk
    have HCL : Hid (64 ≤ cs.toList.length) := Lib.hid (by simpa using hcl)
    have HG : Hid (w.heap.size ≤ g) := Lib.hid (by have := size_al w (.cells #[.int .u8 by_] 5); omega)
    have HCW : Hid (Chg w w2 nob) := Lib.hid (((Chg.refl w nob).alloc _).trans hcg (fun _ _ h => h))
    rw [List.length_replicate]
    clear hbg htk hcl hgf hcg
    go_wp2_with fail
    go_loopw [6, 7, 18] (fun _ _ iv wr => ∃ (i : Nat) (cu : List Value), i ≤ xs.length ∧ iv = .int .i64 i ∧ Hid (Blk wr g 5 cu.toArray) ∧ Hid (cu.take 64 = bytesV (xoN by_ xs i)) ∧ Hid (64 ≤ cu.length) ∧ Hid (Chg w wr nob)) (fun _ _ iv _ => xs.length - (intOf iv).toNat)
    case atStart => exact ⟨0, cs.toList, by omega, rfl, HBG, HTK, HCL, HCW⟩
    case round =>
      obtain ⟨i, cu, hi, rfl, HB, HT2, HL2, HC2⟩ := hrel
      clear HBG HTK HCL HCW
      by_cases hil : i < xs.length
      · have hii : (i : Int) < (xs.length : Int) := by omega
        have hi0 : (0 : Int) ≤ (i : Int) := by omega
        have hi4 : (i : Int) < 64 := by omega
        obtain ⟨gk, ok, rfl, hck⟩ := HK.out.cell (j := i) (u := .int .u8 (xs.getD i 0)) (by simp [bytesV, List.getD, hil])
        have hcr := HC2.out.cell hck id
        have hcu : cu[i]? = some (.int .u8 by_) := by
          have h1 : (cu.take 64)[i]? = some (.int .u8 by_) := by rw [HT2.out, bytesV, List.getElem?_map, xoN_at by_ xs (by omega)]; rfl
          rwa [List.getElem?_take_of_lt (by omega)] at h1
        have hq : wr.cell? ⟨g, i, none⟩ = some (.int .u8 by_) := by rw [HB.out.cell]; simpa using hcu
        have hf := HB.out.free i
        have hst := HB.out.set i (.int .u8 (bits .xor .u8 by_ (xs.getD i 0)))
        have HST : Hid (Blk (wr.setCell ⟨g, i, none⟩ (.int .u8 (bits .xor .u8 by_ (xs.getD i 0)))) g 5 (cu.set i (.int .u8 (bits .xor .u8 by_ (xs.getD i 0)))).toArray) := Lib.hid (by simpa using hst)
        have HT3 : Hid ((cu.set i (.int .u8 (bits .xor .u8 by_ (xs.getD i 0)))).take 64 = bytesV (xoN by_ xs (i + 1))) := Lib.hid (by
          rw [List.take_set, HT2.out, ← xoN_set by_ xs (by omega)]
          simp [bytesV, List.map_set])
        have HL3 : Hid (64 ≤ (cu.set i (.int .u8 (bits .xor .u8 by_ (xs.getD i 0)))).length) := Lib.hid (by simpa using HL2.out)
        have HC3 : Hid (Chg w (wr.setCell ⟨g, i, none⟩ (.int .u8 (bits .xor .u8 by_ (xs.getD i 0)))) nob) := Lib.hid (HC2.out.setCell (.inr HG.out) _)
        obtain ⟨x, hx⟩ : ∃ x, xs.getD i 0 = x := ⟨_, rfl⟩
        rw [hx] at hcr HST HT3 HL3 HC3
        clear hst hck hcu hx
        go_wp2_with fail
        go_roundw
        case rel => exact ⟨i + 1, _, by omega, by go_num, HST, HT3, HL3, HC3⟩
        case measure => simp [intOf]; omega
      · obtain rfl : i = xs.length := by omega
        go_wp2
        go_ret
        refine ⟨_, rfl, g, cu.toArray, by rw [HPD.out, xoN_len]; rfl, HB.out, by rw [HPD.out, xoN_len]; simpa using HT2.out, by rw [HPD.out, xoN_len]; simpa using HL2.out, Nat.le_trans HC1.out.size HG.out, HC1.out.trans HC2.out (fun _ _ h => h)⟩
  · have hi64 : (64 : Int) < (xs.length : Int) := by omega
    have HA := Lib.hid ha
    have HN := Lib.hid hn
    have HBY := Lib.hid hb
    have HTT := Lib.hid ht
    clear ha hb ht hn
    go_enter Tryd.func38, Tryd.ntmps38
    go_wp2_with fail
    go_at_call 37
    refine (sum_any w _ xs HTT.out HA.out HN.out HBY.out hl).mono ?_
    rintro e w1 ⟨v1, rfl, hb1⟩
    have hsl := sumL_len xs
    have hpd : paddedL xs by_ = (List.range 64).map fun i => bits .xor .u8 by_ ((sumL xs).getD i 0) := by rw [paddedL]; simp only [if_neg h64]
    obtain ⟨ys, hys⟩ : ∃ ys, sumL xs = ys := ⟨_, rfl⟩
    rw [hys] at hsl hpd hb1
    have hy64 : ys.length ≤ 64 := by omega
    have HPD : Hid (paddedL xs by_ = xoN by_ ys ys.length) := Lib.hid (by rw [xoN_end by_ ys h0, hpd])
    have HC1 := Lib.hid hb1.2.1
    have hk1 := hb1.1.rd
    obtain ⟨av, cv, rfl, _⟩ := hb1.1.form
    have HK := Lib.hid hk1
    have hyi : (ys.length : Int) ≤ 64 := by omega
    have hy0 : (0 : Int) ≤ (ys.length : Int) := by omega
    clear hb1 hk1 hpd hys hsl
    go_wp2_with fail
    go_at_call 43
    refine (brep_any (w1.alloc (.cells #[.int .u8 by_] 5)) by_ _ (Rd.lit w1 [by_])).mono ?_
    rintro e w2 ⟨v2, rfl, g, cs, rfl, hbg, htk, hcl, hgf, hcg⟩
    have HBG : Hid (Blk w2 g 5 cs.toList.toArray) := Lib.hid (by rw [Array.toArray_toList]; exact hbg)
    rw [List.length_replicate, ← xoN_zero by_ ys] at htk
    rw [List.length_replicate] at hcl
    have HTK := Lib.hid htk
    have HCL : Hid (64 ≤ cs.toList.length) := Lib.hid (by simpa using hcl)
    have HG : Hid (w1.heap.size ≤ g) := Lib.hid (by have := size_al w1 (.cells #[.int .u8 by_] 5); omega)
    have HCW : Hid (Chg w1 w2 nob) := Lib.hid (((Chg.refl w1 nob).alloc _).trans hcg (fun _ _ h => h))
    rw [List.length_replicate]
    clear hbg htk hcl hgf hcg
    go_wp2_with fail
    go_loopw [6, 7, 18] (fun _ _ iv wr => ∃ (i : Nat) (cu : List Value), i ≤ ys.length ∧ iv = .int .i64 i ∧ Hid (Blk wr g 5 cu.toArray) ∧ Hid (cu.take 64 = bytesV (xoN by_ ys i)) ∧ Hid (64 ≤ cu.length) ∧ Hid (Chg w1 wr nob)) (fun _ _ iv _ => ys.length - (intOf iv).toNat)
    case atStart => exact ⟨0, cs.toList, by omega, rfl, HBG, HTK, HCL, HCW⟩
    case round =>
      obtain ⟨i, cu, hi, rfl, HB, HT2, HL2, HC2⟩ := hrel
      clear HBG HTK HCL HCW
      by_cases hil : i < ys.length
      · have hii : (i : Int) < (ys.length : Int) := by omega
        have hi0 : (0 : Int) ≤ (i : Int) := by omega
        have hi4 : (i : Int) < 64 := by omega
        obtain ⟨gk, ok, rfl, hck⟩ := HK.out.cell (j := i) (u := .int .u8 (ys.getD i 0)) (by simp [bytesV, List.getD, hil])
        have hcr := HC2.out.cell hck id
        have hcu : cu[i]? = some (.int .u8 by_) := by
          have h1 : (cu.take 64)[i]? = some (.int .u8 by_) := by rw [HT2.out, bytesV, List.getElem?_map, xoN_at by_ ys (by omega)]; rfl
          rwa [List.getElem?_take_of_lt (by omega)] at h1
        have hq : wr.cell? ⟨g, i, none⟩ = some (.int .u8 by_) := by rw [HB.out.cell]; simpa using hcu
        have hf := HB.out.free i
        have hst := HB.out.set i (.int .u8 (bits .xor .u8 by_ (ys.getD i 0)))
        have HST : Hid (Blk (wr.setCell ⟨g, i, none⟩ (.int .u8 (bits .xor .u8 by_ (ys.getD i 0)))) g 5 (cu.set i (.int .u8 (bits .xor .u8 by_ (ys.getD i 0)))).toArray) := Lib.hid (by simpa using hst)
        have HT3 : Hid ((cu.set i (.int .u8 (bits .xor .u8 by_ (ys.getD i 0)))).take 64 = bytesV (xoN by_ ys (i + 1))) := Lib.hid (by
          rw [List.take_set, HT2.out, ← xoN_set by_ ys (by omega)]
          simp [bytesV, List.map_set])
        have HL3 : Hid (64 ≤ (cu.set i (.int .u8 (bits .xor .u8 by_ (ys.getD i 0)))).length) := Lib.hid (by simpa using HL2.out)
        have HC3 : Hid (Chg w1 (wr.setCell ⟨g, i, none⟩ (.int .u8 (bits .xor .u8 by_ (ys.getD i 0)))) nob) := Lib.hid (HC2.out.setCell (.inr HG.out) _)
        obtain ⟨x, hx⟩ : ∃ x, ys.getD i 0 = x := ⟨_, rfl⟩
        rw [hx] at hcr HST HT3 HL3 HC3
        clear hst hck hcu hx
        go_wp2_with fail
        go_roundw
        case rel => exact ⟨i + 1, _, by omega, by go_num, HST, HT3, HL3, HC3⟩
        case measure => simp [intOf]; omega
      · obtain rfl : i = ys.length := by omega
        go_wp2
        go_ret
        refine ⟨_, rfl, g, cu.toArray, by rw [HPD.out, xoN_len]; rfl, HB.out, by rw [HPD.out, xoN_len]; simpa using HT2.out, by rw [HPD.out, xoN_len]; simpa using HL2.out, Nat.le_trans HC1.out.size HG.out, HC1.out.trans HC2.out (fun _ _ h => h)⟩
end Go.Proofs.YtcgdmidjejmjhaaDoor
