
/-
  The document's sum: Sum.
-/
import Derived.Test.YtcgdmidjejmjhaaDoorMr3
namespace Go.Proofs.YtcgdmidjejmjhaaDoor
open Go.RowKit
set_option linter.unusedVariables false
set_option linter.unusedSimpArgs false

/-- A row of words is none of bytes. -/
theorem words_apart {w : World} {v v' : Value} {n m : Nat} {xs ys : List Value} (h : Own w 72 1 v n xs) (h' : Own w 5 1 v' m ys) : ∀ k, blkOf v k → ¬ blkOf v' k := fun k hk hk' => by
  obtain ⟨c, hc⟩ := h'.row hk'
  exact h.ne hc (by decide) hk
/-- A row of words behind an append onto a row of bytes. -/
theorem words_over {w w' : World} {v v' : Value} {n m : Nat} {xs ys : List Value} {o : Obj} (h : Own w 72 1 v n xs) (h' : Own w 5 1 v' m ys) (hc : Chg (w.alloc o) w' (blkOf v')) : Own w' 72 1 v n xs :=
  (h.kept ((Chg.refl w nob).alloc o) (fun _ _ => id)).kept hc (words_apart (h.kept ((Chg.refl w nob).alloc o) (fun _ _ => id)) (h'.kept ((Chg.refl w nob).alloc o) (fun _ _ => id)))
set_option maxRecDepth 100000 in
set_option maxHeartbeats 1500000 in
theorem rsum_any (w : World) (va : Value) (xs : List Int) (ha : Rd w 1 va xs.length (bytesV xs)) (hn : NilOk va) (hb : ∀ x ∈ xs, 0 ≤ x ∧ x ≤ 255) (hl : xs.length ≤ 1000000) :
    Calls Tryd.prog 40 #[va] w fun e w' => ∃ v, e = .returned v ∧ Bx w w' v (sumL xs) := by
  have HA := Lib.hid ha
  have HN := Lib.hid hn
  have HBY := Lib.hid hb
  obtain ⟨ao, cap, rfl, hc, hlen⟩ := ha.form
  have hn0 : (0 : Int) ≤ (xs.length : Int) := by omega
  have hn1 : (xs.length : Int) ≤ 1000000 := by omega
  clear ha hn hb
  go_enter Tryd.func40, Tryd.ntmps40
  go_wp2_with fail
  go_at_call 45
  refine (consts_any w).mono ?_
  rintro e w1 ⟨vk, rfl, hok, hck, hfk⟩
  have HOK := Lib.hid hok
  have HCK := Lib.hid hck
  have HFK := Lib.hid hfk
  clear hok hck hfk
  go_wp2_with fail
  go_at_call 19
  obtain ⟨W0, hW0⟩ : ∃ W, World.alloc w1 (.cells #[.int .u32 1779033703, .int .u32 3144134277, .int .u32 1013904242, .int .u32 2773480762, .int .u32 1359893119, .int .u32 2600822924, .int .u32 528734635, .int .u32 1541459225] 72) = W := ⟨_, rfl⟩
  have HOH : Hid (Own W0 72 1 (.slice (some ⟨w1.heap.size, 0, none⟩) 8 8) 8 (wordsV start8.l)) := Lib.hid (by rw [← hW0]; exact Own.lit w1 72 (wordsV start8.l).toArray (by show 8 ≤ 1000; decide))
  have hc0 : Chg w1 W0 nob := by rw [← hW0]; exact (Chg.refl w1 nob).alloc _
  rw [hW0]
  clear hW0
  have HC0 : Hid (Chg w W0 nob) := Lib.hid (HCK.out.trans hc0 (fun _ _ h => h))
  have HOK0 := Lib.hid (HOK.out.kept hc0 (fun _ _ => id))
  clear hc0 HOK
  refine (copy_any W0 _ xs (HA.out.kept HC0.out (fun _ _ => id)) HN.out hl).mono ?_
  rintro e w2 ⟨v2, rfl, ho2, hc2, hf2⟩
  have HB2 : Hid (Bx w w2 v2 xs) := Lib.hid ⟨ho2, HC0.out.trans hc2 (fun _ _ h => h), fun k hk => Nat.le_trans HC0.out.size (hf2 k hk)⟩
  have HOK2 := Lib.hid (HOK0.out.kept hc2 (fun _ _ => id))
  have HOH2 := Lib.hid (HOH.out.kept hc2 (fun _ _ => id))
  clear ho2 hc2 hf2 HOK0 HOH
  go_wp2_with (at_builtin; refine wpList_bxr rfl (.tmp 12) (.tmp 13) rfl v2 xs rfl (HB2.out.alloc _) _ [128] rfl (Rd.lit w2 [128]) (nilOk_some _ _ _) (by simp; omega) ?_)
  intro v3 w3 hb3 hc3
  have HB3 := Lib.hid hb3
  have HOK3 := Lib.hid (words_over HOK2.out HB2.out.1 hc3)
  have HOH3 := Lib.hid (words_over HOH2.out HB2.out.1 hc3)
  clear hb3 hc3 HOK2 HOH2 HB2
  go_wp2_with fail
  go_loopw [5] (fun bv wr => ∃ z : Nat, z ≤ zerosN xs.length ∧ Hid (Bx w wr bv (xs ++ [128] ++ List.replicate z 0)) ∧ Hid (Own wr 72 1 vk 64 (wordsV roundsL)) ∧ Hid (Own wr 72 1 (.slice (some ⟨w1.heap.size, 0, none⟩) 8 8) 8 (wordsV start8.l))) (fun bv _ => zerosN xs.length + xs.length + 1 - lenOf bv)
  case atStart => exact ⟨0, by omega, Lib.hid (by simpa using HB3.out), HOK3, HOH3⟩
  case round =>
    obtain ⟨z, hz, HB, HOK, HOH⟩ := hrel
    clear HB3 HOK3 HOH3
    obtain ⟨L, hL⟩ : ∃ L, xs ++ [128] ++ List.replicate z 0 = L := ⟨_, rfl⟩
    rw [hL] at HB
    have hLl : L.length = xs.length + 1 + z := by rw [← hL]; simp; omega
    obtain ⟨m, hm⟩ : ∃ m, L.length = m := ⟨_, rfl⟩
    obtain ⟨av, cv, rfl, _⟩ := HB.out.1.form
    have hz63 : zerosN xs.length < 64 := by unfold zerosN; omega
    have hbm := HB.out.1
    rw [hm] at hLl hbm ⊢
    have HBM := Lib.hid hbm
    clear hbm
    have hmb : m ≤ 1000070 := by omega
    have HLL := Lib.hid hLl
    clear hLl
    by_cases h56 : m % 64 = 56
    · have hzz : Hid (z = zerosN xs.length) := Lib.hid <| by have hLl := HLL.out; unfold zerosN at hz ⊢; omega
      have ht1 : Int.tmod (m : Int) 64 = 56 := by rw [Int.tmod_eq_emod_of_nonneg (by omega)]; omega
      have ht2 : (m : Int) % 64 = 56 := by omega
      obtain ⟨N, hN⟩ : ∃ N, 8 * xs.length = N := ⟨_, rfl⟩
      have hN1 : 8 * (xs.length : Int) = (N : Int) := by omega
      have hNb : N ≤ 8000000 := by omega
      go_wp2_with fail
      go_at_call 28
      refine (eight_any wr N (by omega)).mono ?_
      rintro e w5 ⟨v5, rfl, hb5⟩
      have HR5 := Lib.hid hb5.1.rd
      have HN5 := Lib.hid hb5.1.nilOk
      have HB5 : Hid (Bx w w5 (.slice av L.length cv) L) := Lib.hid ⟨HB.out.1.kept hb5.2.1 (fun _ _ => id), HB.out.2.1.trans hb5.2.1 (fun _ _ h => h), HB.out.2.2⟩
      have HOK5 := Lib.hid (HOK.out.kept hb5.2.1 (fun _ _ => id))
      have HOH5 := Lib.hid (HOH.out.kept hb5.2.1 (fun _ _ => id))
      have HBM5 := Lib.hid (HBM.out.kept hb5.2.1 (fun _ _ => id))
      clear hb5
      go_wp2_with (at_builtin; refine wpList_bxr rfl (.tmp 22) (.tmp 27) rfl (.slice av L.length cv) L (by rw [hm]; rfl) HB5.out v5 (eightL N) rfl HR5.out HN5.out (by rw [hm]; show m + 8 ≤ _; omega) ?_)
      intro v6 w6 hb6 hc6
      have HOK6 := Lib.hid (HOK5.out.kept hc6 (words_apart HOK5.out HBM5.out))
      have HOH6 := Lib.hid (HOH5.out.kept hc6 (words_apart HOH5.out HBM5.out))
      have hfl : filledL xs = L ++ eightL N := by rw [← hL, ← hN, hzz.out]; rfl
      rw [← hfl] at hb6
      have HB6 := Lib.hid hb6
      clear hb6 hc6 hfl HBM5 HOK5 HOH5 HB5 HR5 HN5 HBM HB HOK HOH
      have HFB := Lib.hid (filledL_byte HBY.out)
      have hfl := filledL_len xs
      obtain ⟨F, hF⟩ : ∃ F, filledL xs = F := ⟨_, rfl⟩
      have HS : Hid (sumL xs = (mixAll (F.length / 64) start8 F).l.flatMap fourL) := Lib.hid (by rw [← hF]; rfl)
      rw [hF] at HB6 HFB hfl
      clear hF
      obtain ⟨n, hn⟩ : ∃ n, F.length = n := ⟨_, rfl⟩
      obtain ⟨a6, c6, rfl, hcv, hcv2, _⟩ := HB6.out.1.form
      rw [hn] at hfl HS hcv ⊢
      obtain ⟨hf1, hf2⟩ := hfl
      have hnb : n ≤ 1000100 := by omega
      obtain ⟨Kn, hKn⟩ : ∃ K, n / 64 = K := ⟨_, rfl⟩
      have hnK : n = 64 * Kn := by omega
      rw [hKn] at HS
      have HNK := Lib.hid hnK
      clear hf1 hf2 hKn hnK
      go_wp2_with fail
      go_loopw [4, 6] (fun hv iv wr => ∃ (k : Nat) (s : S8) (gh ch : Nat), k ≤ Kn ∧ iv = .int .i64 ((64 * k : Nat) : Int) ∧ hv = .slice (some ⟨gh, 0, none⟩) 8 ch ∧ Hid (mixAll k start8 F = s) ∧ Hid (Own wr 72 1 (.slice (some ⟨gh, 0, none⟩) 8 ch) 8 (wordsV s.l)) ∧ Hid (Own wr 72 1 vk 64 (wordsV roundsL)) ∧ Hid (Bx w wr (.slice a6 F.length c6) F)) (fun _ iv _ => n - (intOf iv).toNat)
      case atStart => exact ⟨0, start8, w1.heap.size, 8, by omega, rfl, rfl, Lib.hid rfl, HOH6, HOK6, HB6⟩
      case round =>
        obtain ⟨k, s, gh, ch, hk, rfl, rfl, HM, HH, HKK, HBX⟩ := hrel
        clear HOH6 HOK6 HB6
        by_cases hkl : k < Kn
        · obtain ⟨m, hm⟩ : ∃ m, 64 * k = m := ⟨_, rfl⟩
          have hsc := mixAll_succ' k start8 F
          rw [hm] at hsc ⊢
          rw [HM.out] at hsc
          have hmn : m + 64 ≤ n := by have hnK := HNK.out; omega
          have hwm : IntKind.i64.wrap ((m : Int) + 64) = (m : Int) + 64 := by simp only [IntKind.wrap, IntKind.bits, IntKind.signed]; simp; omega
          have hmi : (m : Int) < (n : Int) := by omega
          have hsl : ∀ w', (Instr.slice 22 (.slice a6 n c6) (some (.int .i64 (m : Int))) (some (.int .i64 ((m : Int) + 64))) none).run Tryd.prog w' = .ok (.slice (addS a6 c6 m) 64 (c6 - m)) w' := fun w' => by
            have h := bcut_lh a6 n c6 .i64 .i64 (m : Int) ((m : Int) + 64) w' (by omega) (by omega) (by omega)
            rw [show ((m : Int) + 64).toNat = m + 64 by omega, show (m : Int).toNat = m by omega, show m + 64 - m = 64 by omega] at h
            exact h
          obtain ⟨l, hl2⟩ : ∃ l, (F.drop m).take 64 = l := ⟨_, rfl⟩
          have hll : l.length = 64 := by rw [← hl2]; simp; omega
          have HRL : Hid (Rd wr 1 (.slice (addS a6 c6 m) 64 (c6 - m)) l.length (bytesV l)) := Lib.hid (by
            have h := HBX.out.1.rd.cut (l := m) (m := m + 64) (by omega) (by omega)
            rw [show m + 64 - m = 64 by omega] at h
            rw [hll, ← hl2]
            rw [show ((bytesV F).take (m + 64)).drop m = bytesV ((F.drop m).take 64) by simp [bytesV, List.drop_take]] at h
            exact h)
          have HLB : Hid (∀ x ∈ l, 0 ≤ x ∧ x ≤ 255) := Lib.hid (fun x hx => HFB.out x (by rw [← hl2] at hx; exact List.mem_of_mem_drop (List.mem_of_mem_take hx)))
          have HLL2 := Lib.hid hll
          rw [hl2] at hsc
          have HSC := Lib.hid hsc
          clear hsc hl2 hll
          go_wp2_with fail
          go_at_call 46
          refine (block_any wr _ _ _ s l HH.out.rd HH.out.nilOk HKK.out.rd HRL.out HLB.out HLL2.out).mono ?_
          rintro e w7 ⟨v7, rfl, ho7, hc7, hf7⟩
          obtain ⟨o7, c7, rfl, _⟩ := ho7.form
          obtain ⟨g7, rfl⟩ : ∃ g, o7 = some ⟨g, 0, none⟩ := by
            obtain ⟨g, e, _⟩ := ho7.at (j := 0) (by omega)
            exact ⟨g, e⟩
          have HO7 := Lib.hid ho7
          have HK7 := Lib.hid (HKK.out.kept hc7 (fun _ _ => id))
          have HB7 : Hid (Bx w w7 (.slice a6 F.length c6) F) := Lib.hid ⟨HBX.out.1.kept hc7 (fun _ _ => id), HBX.out.2.1.trans hc7 (fun _ _ x => x), HBX.out.2.2⟩
          clear ho7 hc7 hf7
          go_wp2_with fail
          go_roundw
          case rel => exact ⟨k + 1, mixF s l, g7, c7, by omega, by rw [show ((64 * (k + 1) : Nat) : Int) = (m : Int) + 64 by omega], rfl, HSC, HO7, HK7, HB7⟩
          case measure => simp [intOf]; omega
        · obtain rfl : k = Kn := by omega
          rw [← HNK.out]
          obtain ⟨P, hP⟩ : ∃ P, s.l = P := ⟨_, rfl⟩
          have hPl : P.length = 8 := by rw [← hP]; rfl
          have HS2 : Hid (sumL xs = P.flatMap fourL) := Lib.hid (by rw [HS.out, HM.out, hP])
          rw [hP] at HH
          have HPL := Lib.hid hPl
          have HW2 : Hid (Chg w wr nob) := Lib.hid HBX.out.2.1
          clear hP hPl HS HM HBX HKK
          go_wp2_with fail
          go_loopw [7, 8] (fun bv iv wr => ∃ i : Nat, i ≤ 8 ∧ iv = .int .i64 i ∧ Hid (Bx w wr bv ((P.take i).flatMap fourL)) ∧ Hid (Own wr 72 1 (.slice (some ⟨gh, 0, none⟩) 8 ch) 8 (wordsV P))) (fun _ iv _ => 8 - (intOf iv).toNat)
          case atStart => exact ⟨0, by omega, rfl, Lib.hid ⟨World.ownsRow_nil _ _ _ _, HW2.out, fun k hk => by cases hk⟩, HH⟩
          case round =>
            obtain ⟨i, hi, rfl, HO, HHH⟩ := hrel
            clear HH HW2
            obtain ⟨ao2, co2, rfl, _⟩ := HO.out.1.form
            obtain ⟨L2, hL2⟩ : ∃ L2, (P.take i).flatMap fourL = L2 := ⟨_, rfl⟩
            have hL2l : L2.length = 4 * i := by rw [← hL2, fourL_len, List.length_take, HPL.out]; omega
            by_cases hil : i < 8
            · have hii : (i : Int) < 8 := by omega
              have hi0 : (0 : Int) ≤ (i : Int) := by omega
              have hsn := take_snoc (l := P) (k := i) (by rw [HPL.out]; exact hil) 0
              have HSN : Hid ((P.take (i + 1)).flatMap fourL = L2 ++ fourL (P.getD i 0)) := Lib.hid (by rw [hsn, List.flatMap_append, hL2]; simp)
              have hq : wr.cell? ⟨gh, i, none⟩ = some (.int .u32 (P.getD i 0)) := by
                rw [HHH.out.cellAt i (by omega), wordsV, List.getElem?_map]
                simp [List.getD, show i < P.length by rw [HPL.out]; exact hil]
              obtain ⟨x, hx⟩ : ∃ x, P.getD i 0 = x := ⟨_, rfl⟩
              rw [hx] at hq HSN
              rw [hL2] at HO ⊢
              have HL2 := Lib.hid hL2l
              clear hsn hx hL2 hL2l
              go_wp2_with fail
              go_at_call 34
              refine (four_any wr x).mono ?_
              rintro e w8 ⟨v8, rfl, hb8⟩
              have HR8 := Lib.hid hb8.1.rd
              have HN8 := Lib.hid hb8.1.nilOk
              have HO8 : Hid (Bx w w8 (.slice ao2 L2.length co2) L2) := Lib.hid ⟨HO.out.1.kept hb8.2.1 (fun _ _ => id), HO.out.2.1.trans hb8.2.1 (fun _ _ h => h), HO.out.2.2⟩
              have HH8 := Lib.hid (HHH.out.kept hb8.2.1 (fun _ _ => id))
              clear hb8 hq
              go_wp2_with (at_builtin; refine wpList_bxr rfl (.tmp 47) (.tmp 52) rfl (.slice ao2 L2.length co2) L2 rfl HO8.out v8 (fourL x) rfl HR8.out HN8.out (by rw [HL2.out]; show 4 * i + 4 ≤ _; omega) ?_)
              intro v9 w9 hb9 hc9
              have HH9 := Lib.hid (HH8.out.kept hc9 (words_apart HH8.out HO8.out.1))
              rw [← HSN.out] at hb9
              have HB9 := Lib.hid hb9
              obtain ⟨a9, c9, rfl, _⟩ := hb9.1.form
              clear hb9 hc9
              go_wp2_with fail
              go_roundw
              case rel => exact ⟨i + 1, by omega, by go_num, HB9, HH9⟩
              case measure => simp [intOf]; omega
            · obtain rfl : i = 8 := by omega
              have HO2 : Hid (Bx w wr (.slice ao2 L2.length co2) (sumL xs)) := Lib.hid (by rw [← hL2]; rw [List.take_of_length_le (by rw [HPL.out]; exact Nat.le_refl _), ← HS2.out] at HO ⊢; exact HO.out)
              rw [hL2]
              clear HO
              go_wp2
              go_ret
              exact ⟨_, rfl, HO2.out⟩
    · have ht1 : Int.tmod (m : Int) 64 = (m % 64 : Nat) := by rw [Int.tmod_eq_emod_of_nonneg (by omega)]; omega
      have ht2 : (m : Int) % 64 = (m % 64 : Nat) := by omega
      obtain ⟨q, hq⟩ : ∃ q, m % 64 = q := ⟨_, rfl⟩
      rw [hq] at ht1 ht2 h56
      have hq1 : (q : Int) ≠ 56 := by omega
      have hzl : z < zerosN xs.length := by
        rcases Nat.lt_or_ge z (zerosN xs.length) with h | h
        · exact h
        · exfalso; have hLl := HLL.out; unfold zerosN at *; omega
      go_wp2_with (at_builtin; refine wpList_bxr rfl (.tmp 19) (.tmp 20) rfl _ L (by rw [hm]; rfl) (HB.out.alloc _) _ [0] rfl (Rd.lit wr [0]) (nilOk_some _ _ _) (by simp; omega) ?_)
      intro v4 w4 hb4 hc4
      have HB4 := Lib.hid hb4
      have HOK4 := Lib.hid (words_over HOK.out HBM.out hc4)
      have HOH4 := Lib.hid (words_over HOH.out HBM.out hc4)
      clear hb4 hc4
      obtain ⟨av3, cv3, rfl, _⟩ := HB4.out.1.form
      go_wp2_with fail
      go_roundw
      case rel => exact ⟨z + 1, by omega, Lib.hid (by rw [List.replicate_succ', ← List.append_assoc, hL]; exact HB4.out), HOK4, HOH4⟩
      case measure => have hLl := HLL.out; simp [lenOf, hm]; omega
end Go.Proofs.YtcgdmidjejmjhaaDoor
