
/-
  KeyRuns: cells come back of their runs, as many as were written, and the reader stands behind them.
-/
import Derived.Test.YtioabdoghophlaaDoorKRead3
import Derived.Test.YtioabdoghophlaaDoorCsEq
import Derived.Test.YtioabdoghophlaaDoorKey1
import Derived.Test.YtioabdoghophlaaDoorRS3
namespace Go.Proofs.YtioabdoghophlaaDoor
open Go.RowKit
set_option linter.unusedVariables false
set_option linter.unusedSimpArgs false

theorem varsL_byte (l : List Nat) : ∀ x ∈ varsL l, 0 ≤ x ∧ x ≤ 255 := fun x hx => by
  obtain ⟨n, _, h⟩ := List.mem_flatMap.1 hx
  exact varL_byte n x h
theorem runsL_byte : ∀ (m : Nat) (l : List Ce), l.length ≤ m → ∀ x ∈ runsL l, 0 ≤ x ∧ x ≤ 255
  | _, [], _, x, hx => by rw [runsL] at hx; cases hx
  | 0, c :: t, h, x, hx => by simp at h
  | m + 1, c :: t, h, x, hx => by
    rw [runsL] at hx
    rcases List.mem_append.1 hx with hx | hx
    · exact varsL_byte _ x hx
    · exact runsL_byte m (t.drop (runLen c t)) (by simp at h ⊢; omega) x hx
set_option maxRecDepth 100000 in
set_option maxHeartbeats 4000000 in
theorem KeyRuns_walk (a0 : Option Addr) (c0 : Nat) (P0 : List Ce) (a1 : Option Addr) (len1 cap1 : Nat) (w : World) (l1 : List Int)
    (h0 : Rd w 5 (.slice a0 P0.length c0) P0.length (cellsV P0))
    (hr1 : Rd w 1 (.slice a1 len1 cap1) len1 (l1.map (Value.int .u8))) (hl1 : l1.length = len1) (y1 : len1 * 1 ≤ 140737488351232) (w1 : ∀ x ∈ l1, 0 ≤ x ∧ x ≤ 255) (nk1 : NilOk (.slice a1 len1 cap1)) (ht : Tab w) :
    Calls Tryd.prog 3 #[.slice a0 P0.length c0, .slice a1 len1 cap1] w fun e w' => e = .returned (.bool true) ∧ Chg w w' nob := by
  subst hl1
  obtain ⟨P, hPP⟩ : ∃ P, P0 = P := ⟨_, rfl⟩
  subst hPP
  have K0 := Lib.hid h0
  have K1 : Hid (By w (.slice a1 l1.length cap1) l1) := Lib.hid ⟨hr1, nk1, w1⟩
  have HT := Lib.hid ht
  have i0 : (0 : Int) ≤ (P0.length : Int) := by omega
  have i1 : (0 : Int) ≤ (l1.length : Int) := by omega
  clear h0 hr1 nk1 w1 ht
  go_enter Tryd.func3, Tryd.ntmps3
  go_wp2_with fail
  go_at_call 11
  refine (kfirst_any w HT.out).mono ?_
  rintro e w1 ⟨rfl, hck⟩
  have HC := Lib.hid hck
  clear hck
  by_cases hin : P0.length ≤ 500 ∧ l1.length ≤ 500
  · obtain ⟨hp, hm⟩ := hin
    have hpi : (P0.length : Int) ≤ 500 := by omega
    have hmi : (l1.length : Int) ≤ 500 := by omega
    go_wp2_with fail
    go_loopw [5] (fun iv wr => ∃ i : Nat, i ≤ P0.length ∧ iv = .int .i64 i ∧ Hid (∀ j, j < i → (P0.getD j .z).may = true) ∧ Hid (Chg w wr nob)) (fun iv _ => P0.length - (intOf iv).toNat)
    case atStart => exact ⟨0, Nat.zero_le _, rfl, Lib.hid (fun j hj => absurd hj (Nat.not_lt_zero _)), HC⟩
    case round =>
      clear HC
      obtain ⟨i, hi, rfl, HMY, HC⟩ := hrel
      by_cases hil : i < P0.length
      · have hii : (i : Int) < (P0.length : Int) := by omega
        have hi0 : (0 : Int) ≤ (i : Int) := by omega
        have hx : P0[i]? = some (P0.getD i .z) := by rw [List.getD, List.getElem?_eq_getElem hil]; rfl
        obtain ⟨x, hx'⟩ : ∃ x, P0.getD i .z = x := ⟨_, rfl⟩
        rw [hx'] at hx
        obtain ⟨ga, oa, rfl, b0, b1, b2, b3, b4⟩ := (K0.out.kept HC.out (fun _ _ => id)).cell5 hx
        have HX := Lib.hid hx'
        have HM := Lib.hid (rmaycell_any wr x)
        obtain ⟨m, hm'⟩ : ∃ m, x.may = m := ⟨_, rfl⟩
        rw [hm'] at HM
        have HMM := Lib.hid hm'
        obtain ⟨x1, x2, x3, x4, x5⟩ := x
        simp only [Ce.val] at HM b0 b1 b2 b3 b4
        clear hx hx' hm'
        go_wp2_with fail
        go_at_call 12
        refine HM.out.mono ?_
        rintro e w2 ⟨rfl, hck⟩
        replace HC : Hid (Chg w w2 nob) := Lib.hid (HC.out.trans hck (fun _ _ h => h))
        clear hck HM b0 b1 b2 b3 b4
        cases m with
        | true =>
          go_wp2
          go_roundw
          case rel => exact ⟨i + 1, by omega, by go_num, Lib.hid (fun j hj => by
            by_cases h : j = i
            · subst h; rw [HX.out]; exact HMM.out
            · exact HMY.out j (by omega)), HC⟩
          case measure => simp [intOf]; omega
        | false =>
          go_wp2_with fail
          go_at_call 11
          refine (kfirst_any w2 (HT.out.kept HC.out)).mono ?_
          rintro e x ⟨rfl, hx⟩
          have HXX := Lib.hid hx
          clear hx
          go_wp2
          go_ret
          exact ⟨rfl, HC.out.trans HXX.out (fun _ _ h => h)⟩
      · obtain rfl : i = P0.length := by omega
        have HMA : Hid (∀ c ∈ P0, c.may = true) := Lib.hid (fun c hc => by
          obtain ⟨k, hk, rfl⟩ := List.getElem_of_mem hc
          have h := HMY.out k hk
          rwa [List.getD, List.getElem?_eq_getElem hk, Option.getD_some] at h)
        clear HMY
        go_wp2_with fail
        go_at_call 14
        refine (kcells_any wr _ P0 (K0.out.kept HC.out (fun _ _ => id)) (by omega)).mono ?_
        rintro e w2 ⟨v, rfl, hb⟩
        have HB := Lib.hid hb
        have HC0 := HC
        replace HC : Hid (Chg w w2 nob) := Lib.hid (HC.out.trans hb.2.1 (fun _ _ h => h))
        have hrl : (runsL P0).length ≤ 30000 := Nat.le_trans (runsL_len P0.length P0 (Nat.le_refl _)) (by omega)
        have HRL := Lib.hid hrl
        clear hb hrl
        go_wp2_with (at_builtin; refine wpList_bxr rfl (.tmp 34) (.tmp 35) rfl v (runsL P0) rfl HB.out (.slice a1 l1.length cap1) l1 rfl (K1.out.kept HC.out).rd (K1.out.kept HC.out).nil (by have := HRL.out; omega) ?_)
        intro v' w3 hb hch
        have HBY : Hid (∀ x ∈ runsL P0 ++ l1, 0 ≤ x ∧ x ≤ 255) := Lib.hid (fun x hx => (List.mem_append.1 hx).elim (fun h => runsL_byte P0.length P0 (Nat.le_refl _) x h) (fun h => K1.out.byte x h))
        obtain ⟨av, cv, rfl, _⟩ := hb.1.form
        have HB3 := Lib.hid (By.ofBx hb HBY.out)
        replace HC : Hid (Chg w w3 nob) := Lib.hid (by
          have h1 := HC0.out.trans hb.2.1 (fun _ _ h => h)
          exact h1)
        have hbl : (runsL P0 ++ l1).length ≤ 40000 := by rw [List.length_append]; have := HRL.out; omega
        have HBL := Lib.hid hbl
        obtain ⟨B, hB⟩ : ∃ B, runsL P0 ++ l1 = B := ⟨_, rfl⟩
        have HBD := Lib.hid hB
        rw [hB] at HB3 HBL HBY ⊢
        clear hb hch HB hbl hB
        go_wp2_with fail
        go_at_call 13
        refine (newrdr_any w3 _ B HB3.out (by have := HBL.out; omega)).mono ?_
        rintro e w4 ⟨g, u, rfl, hr, hck, hg, _⟩
        have HR := Lib.hid hr
        have HG : Hid (w.heap.size ≤ g) := Lib.hid (Nat.le_trans HC.out.size hg)
        replace HC : Hid (Chg w w4 nob) := Lib.hid (HC.out.trans hck (fun _ _ h => h))
        clear hr hck hg HB3
        go_wp2_with fail
        go_at_call 15
        refine (kcellsread_any w4 g u B 0 0 HR.out (P0.length : Int) (HT.out.kept HC.out)).mono ?_
        rintro e w5 ⟨hc, q, er, hr, hcase⟩
        have hthere : cellsF P0.length (B.drop 0) = some (P0, l1) := by rw [List.drop_zero, ← HBD.out]; exact cellsF_there (by omega) HMA.out l1
        rcases hcase with ⟨n0, n1, h1, h2, m, cs, rfl, h3, h4⟩ | ⟨_, h1⟩
        rotate_left
        · exfalso
          rcases h1 with h | h | h | h
          · omega
          · omega
          · exact h rfl
          · rw [Int.toNat_natCast, hthere] at h; cases h
        rw [Int.toNat_natCast, hthere] at h4
        simp only [Option.some.injEq, Prod.mk.injEq] at h4
        obtain ⟨rfl, h5⟩ := h4
        have hlq : (B.length : Int) - (q : Int) = (l1.length : Int) := by
          have h6 := congrArg List.length h5
          rw [List.length_drop] at h6
          have h7 := hr.le
          omega
        have HC5 : Hid (Chg w w5 nob) := Lib.hid (HC.out.trans hc (fun i hi e => by have := HG.out; omega))
        have HR5 := Lib.hid hr
        have HM := Lib.hid h3
        have HLQ := Lib.hid hlq
        obtain ⟨am, cm, rfl, _⟩ := h3.form
        clear hc hr h1 h2 h3 h5 hthere hlq HR
        go_wp2_with fail
        go_at_call 11
        refine (kfirst_any w5 (HT.out.kept HC5.out)).mono ?_
        rintro e w6 ⟨rfl, hck⟩
        replace HC5 : Hid (Chg w w6 nob) := Lib.hid (HC5.out.trans hck (fun _ _ h => h))
        replace HR5 := Lib.hid (HR5.out.kept hck)
        replace HM := Lib.hid (HM.out.kept hck)
        clear hck
        go_wp2_with fail
        go_at_call 16
        refine (tcells_any w6 _ _ P0 P0 (K0.out.kept HC5.out (fun _ _ => id)) HM.out.1.rd (by omega)).mono ?_
        rw [decide_eq_true rfl]
        rintro e w7 ⟨rfl, hck⟩
        replace HC5 : Hid (Chg w w7 nob) := Lib.hid (HC5.out.trans hck (fun _ _ h => h))
        replace HR5 := Lib.hid (HR5.out.kept hck)
        clear hck
        go_wp2_with fail
        go_at_call 17
        refine (left_any w7 g u B q er HR5.out).mono ?_
        rw [HLQ.out]
        rintro e w8 ⟨rfl, hck⟩
        replace HC5 : Hid (Chg w w8 nob) := Lib.hid (HC5.out.trans hck (fun _ _ h => h))
        clear hck
        go_wp2
        go_ret
        exact ⟨rfl, HC5.out⟩
  · have hout : 500 < P0.length ∨ (P0.length ≤ 500 ∧ 500 < l1.length) := by omega
    rcases hout with h1 | ⟨h1, h2⟩
    · have h1i : (500 : Int) < (P0.length : Int) := by omega
      go_wp2_with fail
      go_at_call 11
      refine (kfirst_any w1 (HT.out.kept HC.out)).mono ?_
      rintro e x ⟨rfl, hx⟩
      have HXX := Lib.hid hx
      clear hx
      go_wp2
      go_ret
      exact ⟨rfl, HC.out.trans HXX.out (fun _ _ h => h)⟩
    · have h1i : (P0.length : Int) ≤ 500 := by omega
      have h2i : (500 : Int) < (l1.length : Int) := by omega
      go_wp2_with fail
      go_at_call 11
      refine (kfirst_any w1 (HT.out.kept HC.out)).mono ?_
      rintro e x ⟨rfl, hx⟩
      have HXX := Lib.hid hx
      clear hx
      go_wp2
      go_ret
      exact ⟨rfl, HC.out.trans HXX.out (fun _ _ h => h)⟩
end Go.Proofs.YtioabdoghophlaaDoor
