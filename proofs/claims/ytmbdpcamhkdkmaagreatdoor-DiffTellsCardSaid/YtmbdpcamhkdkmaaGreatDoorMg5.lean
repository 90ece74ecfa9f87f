/-
  Screens: may cells stand so.
  Bytes in memory: rows of bytes of the call's own.
  Bytes and strings: tikref.Bytes.
-/
import Derived.Test.YtmbdpcamhkdkmaaGreatDoorMg4
import Derived.Test.YtmbdpcamhkdkmaaGreatDoorK
import Derived.Test.YtmbdpcamhkdkmaaGreatDoorC
import Derived.Deep.DeepCutAuto
import Derived.Lib.EndianBits
import Derived.Laws.BytesArg
namespace Go.Proofs.YtmbdpcamhkdkmaaGreatDoor
open Go.RowKit
set_option linter.unusedVariables false
set_option linter.unusedSimpArgs false

def cellsV (l : List Ce) : List Value := l.flatMap Ce.cs
theorem cellsV_len (l : List Ce) : (cellsV l).length = l.length * 5 := by
  induction l with
  | nil => rfl
  | cons a t ih => simp only [cellsV, List.flatMap_cons, List.length_append, List.length_cons, List.length_nil, Ce.cs] at *; omega
theorem cellsV_at : ∀ (l : List Ce) (k : Nat) (c : Ce), l[k]? = some c → ∀ j, j < 5 → (cellsV l)[k * 5 + j]? = c.cs[j]?
  | a :: t, 0, c, h, j, hj => by
    cases h
    rw [cellsV, List.flatMap_cons, List.getElem?_append_left (by simp [Ce.cs]; omega)]
    simp
  | a :: t, k + 1, c, h, j, hj => by
    have := cellsV_at t k c (by simpa using h) j hj
    rw [cellsV, List.flatMap_cons, List.getElem?_append_right (by simp [Ce.cs]; omega)]
    rw [show (k + 1) * 5 + j - a.cs.length = k * 5 + j by simp [Ce.cs]; omega]
    exact this
/-- The cells of one element. -/
theorem Rd.cell5 {w : World} {ao : Option Addr} {cap : Nat} {l : List Ce} {n : Nat} (h : Rd w 5 (.slice ao n cap) n (cellsV l)) {k : Nat} {c : Ce} (hk : l[k]? = some c) :
    ∃ g o, ao = some ⟨g, o, none⟩ ∧ w.cell? ⟨g, o + k * 5, none⟩ = some (.int .i32 c.r) ∧ w.cell? ⟨g, o + k * 5 + 1, none⟩ = some (.int .i64 c.f) ∧ w.cell? ⟨g, o + k * 5 + 2, none⟩ = some (.int .i64 c.g) ∧ w.cell? ⟨g, o + k * 5 + 3, none⟩ = some (.int .i64 c.b) ∧ w.cell? ⟨g, o + k * 5 + 4, none⟩ = some (.int .i64 c.w) := by
  obtain ⟨g, o, rfl, h0⟩ := h.cell (cellsV_at l k c hk 0 (by omega))
  refine ⟨g, o, rfl, h0, ?_, ?_, ?_, ?_⟩
  all_goals
    first
      | (obtain ⟨_, _, e, h1⟩ := h.cell (cellsV_at l k c hk 1 (by omega)); cases e; exact h1)
      | (obtain ⟨_, _, e, h1⟩ := h.cell (cellsV_at l k c hk 2 (by omega)); cases e; exact h1)
      | (obtain ⟨_, _, e, h1⟩ := h.cell (cellsV_at l k c hk 3 (by omega)); cases e; exact h1)
      | (obtain ⟨_, _, e, h1⟩ := h.cell (cellsV_at l k c hk 4 (by omega)); cases e; exact h1)
def fitsF (r c : Int) : Bool := decide (1 ≤ r ∧ r ≤ 60 ∧ 1 ≤ c ∧ c ≤ 200)
set_option maxRecDepth 100000 in
set_option maxHeartbeats 4000000 in
theorem fits_any (w : World) (r c : Int) : Calls Tryz.prog 35 #[.int .i64 r, .int .i64 c] w fun e w' => e = .returned (.bool (fitsF r c)) ∧ w' = w := by
  rcases (show r < 1 ∨ (1 ≤ r ∧ 60 < r) ∨ (1 ≤ r ∧ r ≤ 60 ∧ c < 1) ∨ (1 ≤ r ∧ r ≤ 60 ∧ 1 ≤ c ∧ 200 < c) ∨ (1 ≤ r ∧ r ≤ 60 ∧ 1 ≤ c ∧ c ≤ 200) by omega) with h | ⟨h1, h2⟩ | ⟨h1, h2, h3⟩ | ⟨h1, h2, h3, h4⟩ | ⟨h1, h2, h3, h4⟩
  all_goals
    first | rw [show fitsF r c = false by simp [fitsF]; omega] | rw [show fitsF r c = true by simp [fitsF]; omega]
    go_enter Tryz.func35, Tryz.ntmps35
    go_wp2
    go_ret
    exact ⟨by first | rfl | (show Ending.returned (Value.bool _) = _; congr 2; simp; omega), rfl⟩
theorem wraps_i64' (n : Int) (h₀ : 0 ≤ n) (h₁ : n < 2 ^ 63) : IntKind.i64.wrap n = n := by
  simp only [IntKind.wrap, IntKind.bits, IntKind.signed]; simp; omega
def Ce.z : Ce := ⟨0, 0, 0, 0, 0⟩
/-- May cell k stand where it stands? -/
def okC (cn : Nat) (l : List Ce) (k : Nat) : Bool :=
  (l.getD k .z).may && (if (l.getD k .z).w = 1 then !decide (k % cn = cn - 1) && decide ((l.getD (k + 1) .z).w = 2) else if (l.getD k .z).w = 2 then !decide (k % cn = 0) && decide ((l.getD (k - 1) .z).w = 1) else true)
def mendF (r c : Int) (l : List Ce) : Bool := fitsF r c && decide ((l.length : Int) = r * c) && (List.range l.length).all (okC c.toNat l)
theorem not_last {rn cn k : Nat} (hk : k < rn * cn) (hc : 1 ≤ cn) (h : k % cn ≠ cn - 1) : k + 1 < rn * cn := by
  have h1 := Nat.div_add_mod k cn
  have h2 := Nat.mod_lt k (show cn > 0 by omega)
  have h3 : k / cn < rn := Nat.div_lt_of_lt_mul (by rw [Nat.mul_comm]; exact hk)
  have h4 : cn * (k / cn + 1) ≤ cn * rn := Nat.mul_le_mul_left _ h3
  rw [Nat.mul_add, Nat.mul_one, Nat.mul_comm cn rn] at h4
  omega
theorem not_first {cn k : Nat} (h : k % cn ≠ 0) : 1 ≤ k := by
  rcases k with _ | k
  · simp at h
  · omega
set_option maxRecDepth 100000 in
set_option maxHeartbeats 8000000 in
theorem mended_any (w : World) (r c : Int) (va : Value) (l : List Ce) (ha : Rd w 5 va l.length (cellsV l)) (hl : l.length ≤ 1000000) (ht : Tab w) :
    Calls Tryz.prog 39 #[.int .i64 r, .int .i64 c, va] w fun e w' => e = .returned (.bool (mendF r c l)) ∧ Chg w w' nob := by
  obtain ⟨a1, c1, rfl, hn1, _⟩ := ha.form
  have HC := Lib.hid ha
  have HT := Lib.hid ht
  clear ha ht
  by_cases hf : 1 ≤ r ∧ r ≤ 60 ∧ 1 ≤ c ∧ c ≤ 200
  · obtain ⟨h1, h2, h3, h4⟩ := hf
    obtain ⟨rn, rfl⟩ : ∃ rn : Nat, r = rn := ⟨r.toNat, by omega⟩
    obtain ⟨cn, rfl⟩ : ∃ cn : Nat, c = cn := ⟨c.toNat, by omega⟩
    have hft : Hid (fitsF rn cn = true) := Lib.hid (by simp [fitsF]; omega)
    have hm1 : rn * cn ≤ 60 * 200 := Nat.mul_le_mul (by omega) (by omega)
    obtain ⟨m, hm⟩ : ∃ m, rn * cn = m := ⟨_, rfl⟩
    have hmb : m ≤ 12000 := by omega
    have hmm : (rn : Int) * (cn : Int) = (m : Int) := by rw [← hm]; simp
    have hw : IntKind.i64.wrap ((rn : Int) * (cn : Int)) = (m : Int) := by rw [hmm]; simp only [IntKind.wrap, IntKind.bits, IntKind.signed]; simp; omega
    by_cases hlm : l.length = m
    · have hme : mendF rn cn l = (List.range l.length).all (okC cn l) := by
        rw [mendF, hft.out, hmm, hlm]; simp
      rw [hme]
      clear hme
      obtain ⟨R, hR⟩ : ∃ R, (List.range l.length).all (okC cn l) = R := ⟨_, rfl⟩
      have good : Hid ((∀ j, j < m → okC cn l j = true) → R = true) := Lib.hid (fun h => by rw [← hR]; simpa [hlm] using h)
      have bad : Hid (∀ j, j < m → okC cn l j = false → R = false) := Lib.hid (fun j hj h => by rw [← hR]; simp only [List.all_eq_false, List.mem_range]; exact ⟨j, by omega, by simp [h]⟩)
      rw [hR]
      clear hR
      have HLM := Lib.hid hlm
      go_enter Tryz.func39, Tryz.ntmps39
      go_wp2_with fail
      go_at_call 35
      refine (fits_any w rn cn).mono ?_
      rw [hft.out]
      rintro e w1 ⟨rfl, rfl⟩
      rw [hlm] at HC hn1 ⊢
      have HM := Lib.hid hm
      clear hlm hm hmm hft
      go_wp2
      go_loopw [25] (fun iv wr => ∃ k : Nat, k ≤ m ∧ iv = .int .i64 k ∧ Hid (∀ j, j < k → okC cn l j = true) ∧ Hid (Chg w1 wr nob)) (fun iv _ => m - (intOf iv).toNat)
      case atStart => exact ⟨0, Nat.zero_le _, rfl, Lib.hid (fun j hj => by omega), Lib.hid (Chg.refl _ _)⟩
      case round =>
        obtain ⟨k, hk, rfl, HO, HCH⟩ := hrel
        by_cases hkl : k < m
        · have hkn : (k : Int) < (m : Int) := by omega
          have hk0 : (0 : Int) ≤ (k : Int) := by omega
          obtain ⟨cc, hcc⟩ : ∃ cc, l[k]? = some cc := ⟨l[k]'(by rw [HLM.out]; exact hkl), List.getElem?_eq_getElem (by rw [HLM.out]; exact hkl)⟩
          have hrd := HC.out.kept HCH.out (fun _ _ => id)
          rw [← HLM.out] at hrd
          obtain ⟨g, o, rfl, t0, t1, t2, t3, t4⟩ := hrd.cell5 hcc
          have hgd : l.getD k .z = cc := by simp [List.getD, hcc]
          have HGD := Lib.hid hgd
          have HCC := Lib.hid hcc
          clear hrd hgd hcc
          obtain ⟨r0, f0, g0, b0, w0⟩ := cc
          simp only at t0 t1 t2 t3 t4
          obtain ⟨bf, hbf⟩ : ∃ bf, (Int.tmod (k : Int) (cn : Int) == 0) = bf := ⟨_, rfl⟩
          obtain ⟨bl, hbl⟩ : ∃ bl, (Int.tmod (k : Int) (cn : Int) == (cn : Int) - 1) = bl := ⟨_, rfl⟩
          have hbf' : Hid (decide (k % cn = 0) = bf) := Lib.hid (by rw [← hbf, Bool.eq_iff_iff, ← Int.ofNat_tmod]; simp; omega)
          have hbl' : Hid (decide (k % cn = cn - 1) = bl) := Lib.hid (by rw [← hbl, Bool.eq_iff_iff, ← Int.ofNat_tmod]; simp; omega)
          have hcn : ¬ cn = 0 := by omega
          have HBF := Lib.hid hbf
          have HBL := Lib.hid hbl
          clear hbf hbl
          go_wp2_with fail
          obtain ⟨wb, hwb⟩ : ∃ wb, wr.alloc (.cells #[.int .i32 r0, .int .i64 f0, .int .i64 g0, .int .i64 b0, .int .i64 w0] 47) = wb := ⟨_, rfl⟩
          rw [hwb]
          have hb : Blk wb wr.heap.size 47 #[.int .i32 r0, .int .i64 f0, .int .i64 g0, .int .i64 b0, .int .i64 w0] := by rw [← hwb]; exact Blk.new wr _ _
          have HCB : Hid (Chg wr wb nob) := Lib.hid (by rw [← hwb]; exact (Chg.refl wr nob).alloc _)
          clear hwb t0 t1 t2 t3 t4
          have HB := Lib.hid hb
          have t0 := hb.cell 0
          have t1 := hb.cell 1
          have t2 := hb.cell 2
          have t3 := hb.cell 3
          have t4 := hb.cell 4
          simp only [List.getElem?_toArray, List.getElem?_cons_zero, List.getElem?_cons_succ] at t0 t1 t2 t3 t4
          clear hb
          refine wp_one [] [] [] [0, 1, 2, 3, 4, 5, 6, 7, 8, 9, 10, 11] rfl (by kernel_rfl) (fun _ _ _ _ _ h => h) ?_; simp only [List.map_cons, List.map_nil, List.getElem?_toArray, List.getElem?_cons_zero, List.getElem?_cons_succ]
          (repeat (first | (apply can0; (· rfl); (· rfl); (· (intro w'; first | (go_simp; with_reducible rfl) | (go_simp; done))); simp only [Act.put, List.setIfInBounds_toArray, List.set_cons_zero, List.set_cons_succ]) | (apply can1; (· rfl); (· rfl); (· (first | (go_simp; with_reducible rfl) | (go_simp; done))); simp only [Act.put, List.setIfInBounds_toArray, List.set_cons_zero, List.set_cons_succ]) | (apply canN; (· rfl); (· rfl); simp only [Act.put, List.setIfInBounds_toArray, List.set_cons_zero, List.set_cons_succ]) | (apply canN1; (· rfl); (· rfl); simp only [Act.put, List.setIfInBounds_toArray, List.set_cons_zero, List.set_cons_succ]) | (apply can0; (· rfl); (· (go_simp; done)); (· (intro w'; first | (go_simp; with_reducible rfl) | (go_simp; done))); simp only [Act.put, List.setIfInBounds_toArray, List.set_cons_zero, List.set_cons_succ]) | (apply can1; (· rfl); (· (go_simp; done)); (· (first | (go_simp; with_reducible rfl) | (go_simp; done))); simp only [Act.put, List.setIfInBounds_toArray, List.set_cons_zero, List.set_cons_succ]) | (apply canN; (· rfl); (· (go_simp; done)); simp only [Act.put, List.setIfInBounds_toArray, List.set_cons_zero, List.set_cons_succ]) | (apply canN1; (· rfl); (· (go_simp; done)); simp only [Act.put, List.setIfInBounds_toArray, List.set_cons_zero, List.set_cons_succ])))
          refine canE ?_
          have hwc : IntKind.i64.wrap ((cn : Int) - 1) = (cn : Int) - 1 := wraps_i64' _ (by omega) (by omega)
          rw [hwc, HBF.out, HBL.out]
          clear hwc HBF HBL
          have hok : Hid (okC cn l k = (Ce.may ⟨r0, f0, g0, b0, w0⟩ && (if w0 = 1 then !bl && decide ((l.getD (k + 1) .z).w = 2) else if w0 = 2 then !bf && decide ((l.getD (k - 1) .z).w = 1) else true))) := Lib.hid (by rw [okC, HGD.out, hbl'.out, hbf'.out])
          obtain ⟨km, hkm⟩ : ∃ km, Ce.may ⟨r0, f0, g0, b0, w0⟩ = km := ⟨_, rfl⟩
          rw [hkm] at hok
          have HKM := Lib.hid hkm
          have HKM2 : Hid (Ce.may ⟨r0, f0, g0, b0, w0⟩ = km → True) := Lib.hid (fun _ => trivial)
          clear hkm HKM2
          have HNX : Hid (bl = false → k + 1 < m) := Lib.hid (fun h => by
            have h1 := hbl'.out
            rw [h] at h1
            have h2 := HM.out
            rw [← h2]
            exact not_last (by omega) (by omega) (by simpa using h1))
          have HPV : Hid (bf = false → 1 ≤ k) := Lib.hid (fun h => by
            have h1 := hbf'.out
            rw [h] at h1
            exact not_first (by simpa using h1))
          have HW : Hid (Chg w1 wb nob) := Lib.hid (HCH.out.trans HCB.out (fun _ _ h => h))
          go_wp2_with fail
          go_at_call 63
          refine (maycell_any wb.drew ⟨r0, f0, g0, b0, w0⟩ (HT.out.kept HW.out.drew)).mono ?_
          rw [HKM.out]
          rintro e w2 ⟨rfl, hc2⟩
          have HB2 := Lib.hid ((HB.out.kept (Chg.refl wb nob).drew id).kept hc2 id)
          have HW2 : Hid (Chg w1 w2 nob) := Lib.hid (HW.out.drew.trans hc2 (fun _ _ h => h))
          clear hc2 t0 t1 t2 t3 t4
          have t0 := HB2.out.cell 0
          have t1 := HB2.out.cell 1
          have t2 := HB2.out.cell 2
          have t3 := HB2.out.cell 3
          have t4 := HB2.out.cell 4
          simp only [List.getElem?_toArray, List.getElem?_cons_zero, List.getElem?_cons_succ] at t0 t1 t2 t3 t4
          cases km
          · go_wp2
            go_ret
            exact ⟨by rw [bad.out k hkl (by rw [hok.out]; rfl)]; rfl, HW2.out⟩
          · rcases (show w0 = 1 ∨ w0 = 2 ∨ (w0 ≠ 1 ∧ w0 ≠ 2) by omega) with rfl | rfl | ⟨h5, h6⟩
            · cases bl
              · have hnx := HNX.out rfl
                obtain ⟨c2, hc2⟩ : ∃ c2, l[k + 1]? = some c2 := ⟨l[k + 1]'(by rw [HLM.out]; omega), List.getElem?_eq_getElem (by rw [HLM.out]; omega)⟩
                have hrd := HC.out.kept HW2.out (fun _ _ => id)
                rw [← HLM.out] at hrd
                obtain ⟨g', o', heq, _, _, _, _, s4⟩ := hrd.cell5 hc2
                cases heq
                rw [HLM.out] at *
                have hgd2 : l.getD (k + 1) .z = c2 := by simp [List.getD, hc2]
                rw [hgd2] at hok
                obtain ⟨r2, f2, g2, b2, d2⟩ := c2
                simp only at hok s4
                clear hgd2 hc2 hrd
                by_cases hd : d2 = 2
                · have hgo : Hid (okC cn l k = true) := Lib.hid (by rw [hok.out, hd]; rfl)
                  go_wp2
                  go_roundw
                  case rel => exact ⟨k + 1, by omega, by go_num, Lib.hid (fun j hj => by
                    rcases (show j < k ∨ j = k by omega) with h | rfl
                    · exact HO.out j h
                    · exact hgo.out), HW2⟩
                  case measure => simp [intOf]; omega
                · have hba : Hid (okC cn l k = false) := Lib.hid (by rw [hok.out]; simp [hd])
                  go_wp2
                  go_ret
                  exact ⟨by rw [bad.out k hkl hba.out]; rfl, HW2.out⟩
              · go_wp2
                go_ret
                exact ⟨by rw [bad.out k hkl (by rw [hok.out]; rfl)]; rfl, HW2.out⟩
            · cases bf
              · have hnx := HPV.out rfl
                obtain ⟨c2, hc2⟩ : ∃ c2, l[k - 1]? = some c2 := ⟨l[k - 1]'(by rw [HLM.out]; omega), List.getElem?_eq_getElem (by rw [HLM.out]; omega)⟩
                have hrd := HC.out.kept HW2.out (fun _ _ => id)
                rw [← HLM.out] at hrd
                obtain ⟨g', o', heq, _, _, _, _, s4⟩ := hrd.cell5 hc2
                cases heq
                rw [HLM.out] at *
                have hgd2 : l.getD (k - 1) .z = c2 := by simp [List.getD, hc2]
                rw [hgd2] at hok
                obtain ⟨r2, f2, g2, b2, d2⟩ := c2
                simp only at hok s4
                clear hgd2 hc2 hrd
                by_cases hd : d2 = 1
                · have hgo : Hid (okC cn l k = true) := Lib.hid (by rw [hok.out, hd]; rfl)
                  go_wp2
                  go_roundw
                  case rel => exact ⟨k + 1, by omega, by go_num, Lib.hid (fun j hj => by
                    rcases (show j < k ∨ j = k by omega) with h | rfl
                    · exact HO.out j h
                    · exact hgo.out), HW2⟩
                  case measure => simp [intOf]; omega
                · have hba : Hid (okC cn l k = false) := Lib.hid (by rw [hok.out]; simp [hd])
                  go_wp2
                  go_ret
                  exact ⟨by rw [bad.out k hkl hba.out]; rfl, HW2.out⟩
              · go_wp2
                go_ret
                exact ⟨by rw [bad.out k hkl (by rw [hok.out]; rfl)]; rfl, HW2.out⟩
            · have hgo : Hid (okC cn l k = true) := Lib.hid (by rw [hok.out, if_neg h5, if_neg h6]; rfl)
              go_wp2
              go_roundw
              case rel => exact ⟨k + 1, by omega, by go_num, Lib.hid (fun j hj => by
                rcases (show j < k ∨ j = k by omega) with h | rfl
                · exact HO.out j h
                · exact hgo.out), HW2⟩
              case measure => simp [intOf]; omega
        · obtain rfl : k = m := by omega
          go_wp2
          go_ret
          exact ⟨by rw [good.out HO.out]; rfl, HCH.out⟩
    · have hme : mendF rn cn l = false := by
        rw [mendF, hft.out, hmm]; simp; omega
      rw [hme]
      clear hme
      go_enter Tryz.func39, Tryz.ntmps39
      go_wp2_with fail
      go_at_call 35
      refine (fits_any w rn cn).mono ?_
      rw [hft.out]
      rintro e w1 ⟨rfl, rfl⟩
      have hne : ¬ (l.length : Int) = (m : Int) := by omega
      go_wp2
      go_ret
      exact ⟨rfl, Chg.refl _ _⟩
  · have hft : Hid (fitsF r c = false) := Lib.hid (by simp [fitsF]; omega)
    have hme : mendF r c l = false := by rw [mendF, hft.out]; rfl
    rw [hme]
    clear hme hf
    go_enter Tryz.func39, Tryz.ntmps39
    go_wp2_with fail
    go_at_call 35
    refine (fits_any w r c).mono ?_
    rw [hft.out]
    rintro e w1 ⟨rfl, rfl⟩
    go_wp2
    go_ret
    exact ⟨rfl, Chg.refl _ _⟩
end Go.Proofs.YtmbdpcamhkdkmaaGreatDoor

namespace Go.Proofs.YtmbdpcamhkdkmaaGreatDoor
open Go.RowKit
set_option linter.unusedVariables false
set_option linter.unusedSimpArgs false

def bytesV (l : List Int) : List Value := l.map (Value.int .u8)
theorem u_bytes : Tryz.prog.underlying 25 = some (.slice 5) := by kernel_rfl
theorem i_byte : (Tryz.prog.info? 5).map (fun i => (i.zero, i.size, i.bytes)) = some (some (.int .u8 0), 1, 1) := by kernel_rfl
theorem wraps_u8' (n : Nat) : IntKind.u8.wrap (n : Int) = ((n % 256 : Nat) : Int) := by simp [IntKind.wrap, IntKind.bits, IntKind.signed]
/-- Bytes of the call's own. -/
def Bx (w wr : World) (v : Value) (L : List Int) : Prop := Own wr 5 1 v L.length (bytesV L) ∧ Chg w wr nob ∧ ∀ k, blkOf v k → w.heap.size ≤ k
theorem Bx.pushs {w wr w1 : World} {v v1 : Value} {L ys : List Int} {us : List Value} {n : Nat} (h : Bx w wr v L) (ho : Own w1 5 1 v1 n (bytesV L ++ us)) (hc : Chg wr w1 (blkOf v)) (hf : ∀ k, blkOf v1 k → blkOf v k ∨ wr.heap.size ≤ k) (hu : us = bytesV ys) (hn : n = (L ++ ys).length) : Bx w w1 v1 (L ++ ys) := by
  subst hu hn
  refine ⟨by simpa [bytesV] using ho, h.2.1.trans hc (fun i hi hb => by have := h.2.2 i hb; omega), fun k hk => ?_⟩
  rcases hf k hk with h1 | h1
  · exact h.2.2 k h1
  · exact Nat.le_trans h.2.1.size h1
theorem take_snoc {α : Type} {l : List α} {k : Nat} (h : k < l.length) (d : α) : l.take (k + 1) = l.take k ++ [l.getD k d] := by
  rw [List.take_succ_eq_append_getElem h]; simp [List.getD, h]
theorem bytes_one (ys : List Int) : ∀ u ∈ bytesV ys, u.oneCell' = true := fun u hu => by obtain ⟨x, _, rfl⟩ := List.mem_map.1 hu; rfl
theorem Own.lit (w : World) (e : TypeId) (cs : Array Value) (h : cs.size ≤ 1000) : Own (w.alloc (.cells cs e)) e 1 (.slice (some ⟨w.heap.size, 0, none⟩) cs.size cs.size) cs.size cs.toList :=
  ⟨by simp, .inr ⟨w.heap.size, cs.size, cs, rfl, Nat.zero_le _, heap_alloc_new w _, Nat.le_refl _, by unfold maxLen; omega, by simp, by rw [Nat.mul_one]; exact List.take_of_length_le (by simp)⟩⟩
end Go.Proofs.YtmbdpcamhkdkmaaGreatDoor

namespace Go.Proofs.YtmbdpcamhkdkmaaGreatDoor
open Go.RowKit
set_option linter.unusedVariables false
set_option linter.unusedSimpArgs false

/-- The string of some bytes. -/
theorem rd_string (w : World) (v : Value) (xs : List Int) (h : Rd w 1 v xs.length (bytesV xs)) : (convert 25 9 v).run Tryz.prog w = .ok (.string (strOfNums xs)) w := by
  obtain ⟨ao, cap, rfl, h1, h2, h3⟩ := h
  cases xs with
  | nil =>
    cases ao with
    | none => exact run_convert_bytes_nil w 25 5 u_bytes (by kernel_rfl) _ _ 9 (by kernel_rfl)
    | some a =>
      rw [run_convert_bytes_string w 25 9 5 _ _ cap u_bytes (by kernel_rfl) (by kernel_rfl), run_bytesToString w a ([] : List Int).length cap [] rfl]
      rfl
  | cons x t =>
    obtain ⟨b, o, rfl, _⟩ := h3 0 _ rfl
    refine run_convert_bytes_arg w 25 5 u_bytes (by kernel_rfl) b o _ cap (x :: t) rfl (fun i hi => ?_) 9 (by kernel_rfl)
    obtain ⟨b', o', h4, h5⟩ := h3 i (.int .u8 ((x :: t).getD i 0)) (by unfold bytesV; rw [List.getElem?_map, List.getElem?_eq_getElem hi]; simp [List.getD, List.getElem?_eq_getElem hi])
    cases h4
    exact h5
theorem strOfNums_inj {xs ys : List Int} (hx : ∀ x ∈ xs, 0 ≤ x ∧ x ≤ 255) (hy : ∀ x ∈ ys, 0 ≤ x ∧ x ≤ 255) (h : strOfNums xs = strOfNums ys) : xs = ys := by
  have h2 := congrArg (fun b => b.data.toList) h
  simp only [strOfNums_data] at h2
  clear h
  induction xs generalizing ys with
  | nil => cases ys with
    | nil => rfl
    | cons y t => simp at h2
  | cons x t ih => cases ys with
    | nil => simp at h2
    | cons y u =>
      simp only [List.map_cons, List.cons.injEq] at h2
      have h3 := congrArg UInt8.toNat h2.1
      have b1 := hx x (by simp)
      have b2 := hy y (by simp)
      simp [UInt8.toNat_ofNat'] at h3
      have : x = y := by omega
      rw [this, ih (fun z hz => hx z (by simp [hz])) (fun z hz => hy z (by simp [hz])) h2.2]
theorem toList_inj {a b : ByteArray} (h : a.toList = b.toList) : a = b := by
  rw [ByteArray.toList_eq, ByteArray.toList_eq] at h
  exact ByteArray.ext (Array.toList_inj.1 h)
set_option maxRecDepth 100000 in
theorem bytes_eq (w : World) (va vb : Value) (xs ys : List Int) (ha : Rd w 1 va xs.length (bytesV xs)) (hb : Rd w 1 vb ys.length (bytesV ys)) (hx : ∀ x ∈ xs, 0 ≤ x ∧ x ≤ 255) (hy : ∀ x ∈ ys, 0 ≤ x ∧ x ≤ 255) :
    Calls Tryz.prog 10 #[va, vb] w fun e w' => e = .returned (.bool (decide (xs = ys))) ∧ w' = w := by
  have h1 := rd_string w va xs ha
  have h2 := rd_string w vb ys hb
  have hd : Hid (((strOfNums xs).toList == (strOfNums ys).toList) = decide (xs = ys)) := Lib.hid (by
    rw [Bool.eq_iff_iff]
    simp only [beq_iff_eq, decide_eq_true_eq]
    refine ⟨fun h => strOfNums_inj hx hy (toList_inj h), fun h => by rw [h]⟩)
  clear ha hb hx hy
  go_enter Tryz.func10, Tryz.ntmps10
  go_wp2
  go_ret
  refine ⟨?_, rfl⟩
  show Ending.returned (Value.bool _) = _
  rw [hd.out]
end Go.Proofs.YtmbdpcamhkdkmaaGreatDoor
