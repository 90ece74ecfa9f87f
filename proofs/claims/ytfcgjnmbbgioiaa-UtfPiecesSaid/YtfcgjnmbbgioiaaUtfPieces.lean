/-
  Chapter 3: the walk of UtfPieces.
-/
import Derived.Test.YtfcgjnmbbgioiaaUtf6
import Derived.Deep.DeepCutAuto
import Derived.Deep.CutBlock
namespace Go.Proofs.Ytfcgjnmbbgioiaa
open Go.RowKit
set_option linter.unusedVariables false
set_option linter.unusedSimpArgs false
attribute [local go_sem ↓] run_min_two run_max_two run_cut_h run_cut_l

/-- The pieces' own loop: what has been fed lies ahead of m. -/
def Fed (w0 w : World) (d x : Nat) (xs : List Int) (m : Nat) (rest got want : Value) : Prop :=
  m ≤ xs.length ∧ DD w0 w d (runD [] (xs.take m)).1 x (runD [] xs).1 ∧ Rd w0 1 rest (xs.length - m) (bytesV (xs.drop m)) ∧
  Own w 21 1 got (runD [] (xs.take m)).2.length (runesV (runD [] (xs.take m)).2) ∧ Own w 21 1 want (runD [] xs).2.length (runesV (runD [] xs).2) ∧ ∀ k, blkOf got k → w0.heap.size ≤ k ∧ ¬ blkOf want k

set_option maxRecDepth 100000 in
set_option maxHeartbeats 8000000 in
theorem UtfPieces_walk (a0 : Option Addr) (len0 cap0 : Nat) (a1 : Option Addr) (len1 cap1 : Nat) (w : World) (l0 l1 : List Int)
    (hr0 : Rd w 1 (.slice a0 len0 cap0) len0 (l0.map (Value.int .u8))) (hr1 : Rd w 1 (.slice a1 len1 cap1) len1 (l1.map (Value.int .i64))) (hl0 : l0.length = len0) (hl1 : l1.length = len1) (y0 : len0 * 1 ≤ 140737488351232) (y1 : len1 * 8 ≤ 140737488351232)
    (w0 : ∀ x ∈ l0, 0 ≤ x ∧ x ≤ 255) (w1 : ∀ x ∈ l1, -9223372036854775808 ≤ x ∧ x ≤ 9223372036854775807) :
    Calls Try.prog 4 #[.slice a0 len0 cap0, .slice a1 len1 cap1] w fun e w' => e = .returned (.bool true) ∧ Chg w w' nob := by
  by_cases hl : len0 ≤ 2000 ∧ len1 ≤ 200
  · obtain ⟨hA, hB⟩ := hl
    subst hl0
    have HR1 := Lib.hid hr1
    have HW0 := Lib.hid w0
    have HW1 := Lib.hid w1
    have HR0 : Hid (Rd w 1 (.slice a0 l0.length cap0) l0.length (bytesV l0)) := Lib.hid hr0
    have hcap0 : l0.length ≤ cap0 := by obtain ⟨_, _, hv, h, _⟩ := hr0; cases hv; exact h
    clear hr0 hr1 w0 w1
    have hn0 : ¬ (2000 : Int) < (l0.length : Int) := by omega
    have hn1 : ¬ (200 : Int) < (len1 : Int) := by omega
    go_enter Try.func4, Try.ntmps4
    go_wp2_with fail
    go_at_call 9
    refine (ufirst_any w).mono ?_
    rintro e wA ⟨rfl, hA⟩
    have HA := Lib.hid hA
    clear hA
    go_wp2_with fail
    go_at_call 10
    refine (d_new wA).mono ?_
    rintro e wB ⟨d, rfl, hB⟩
    have HB := Lib.hid (DH.from HA.out hB)
    clear hB HA
    go_wp2_with fail
    go_at_call 10
    refine (d_new wB).mono ?_
    rintro e wC ⟨x, rfl, hC⟩
    have HC := Lib.hid (DD.make HB.out hC)
    clear hC HB
    go_wp2_with fail
    go_at_call 12
    refine (dd_write HC.out.symm (Or.inl rfl) _ l0 HR0.out HW0.out (by omega)).mono ?_
    rintro e wD ⟨want, rfl, hw, hD, -, hwb, -⟩
    have HD : Hid (Fed w wD d x l0 0 (.slice a0 l0.length cap0) (.slice none 0 0) want) := Lib.hid ⟨Nat.zero_le _, hD.symm, by simpa using HR0.out, World.ownsRow_nil wD 0 21 1, hw, fun k hk => by cases hk⟩
    clear hw hD hwb HC
    go_wp2_with fail
    go_loopw [8, 9, 10] (fun got rest i wr => ∃ k m : Nat, k ≤ len1 + 1 ∧ i = .int .i64 k ∧ (k = len1 + 1 → m = l0.length) ∧ Hid (Fed w wr d x l0 m rest got want)) (fun _ _ i _ => len1 + 1 - (intOf i).toNat)
    case atStart => exact ⟨0, 0, by omega, rfl, by omega, HD⟩
    case round =>
      obtain ⟨k, m, hk, rfl, hkm, HF⟩ := hrel
      clear HD
      obtain ⟨hm, hdd, hrr, hgo, hwo, hgb⟩ := HF.out
      obtain ⟨ar, cr, rfl, hcr, _⟩ := hrr.form
      obtain ⟨ag, cg, rfl, hcg, _⟩ := hgo.form
      have HKM := Lib.hid hkm
      have HDD := Lib.hid hdd
      have HRR := Lib.hid hrr
      have HGO := Lib.hid hgo
      have HWO := Lib.hid hwo
      have HGB := Lib.hid hgb
      clear HF hdd hrr hgo hwo hgb hkm
      generalize hp : l0.length - m = p at *
      by_cases hkl : k ≤ len1
      · have hki : (k : Int) ≤ (len1 : Int) := by omega
        have hln : (runD [] (l0.take m)).2.length ≤ 4000 := by have := runD_len (l0.take m) []; rw [List.length_take] at this; omega
        generalize hG : (runD [] (l0.take m)).2.length = lg at *
        go_upto_if 46 with (fail)
        go_cut [11] (fun v wx => ∃ n : Nat, n ≤ p ∧ v = .int .i64 n ∧ (k = len1 → n = p) ∧ wx = wr)
        case first =>
          by_cases hkc : k < len1
          · have hkc' : (k : Int) < (len1 : Int) := by omega
            obtain ⟨b1, o1, rfl, hc1⟩ := HR1.out.cell (j := k) (u := .int .i64 (l1.getD k 0)) (by simp [List.getD, hl1, hkc])
            have hc2 := HDD.out.chg.cell hc1 id
            generalize l1.getD k 0 = c at *
            go_wp2
            all_goals go_meet
            all_goals (first | exact ⟨0, by omega, rfl, by omega, rfl⟩ | exact ⟨p, by omega, rfl, by omega, rfl⟩ | exact ⟨(mnI (mxI c 0) p).toNat, by unfold mnI mxI; (repeat' split) <;> omega, by congr 1; unfold mnI mxI; (repeat' split) <;> omega, by omega, rfl⟩ | exact ⟨c.toNat, by omega, by congr 1; omega, by omega, rfl⟩)
          · have hkc' : ¬ (k : Int) < (len1 : Int) := by omega
            go_wp2
            go_meet
            exact ⟨p, Nat.le_refl _, rfl, fun _ => rfl, rfl⟩
        case rest =>
          obtain ⟨n, hn, rfl, hkn, rfl⟩ := hcut
          have HKN := Lib.hid hkn
          clear hkn
          have hn1 : (n : Int) ≤ (cr : Int) := by omega
          have hn2 : (n : Int) ≤ (p : Int) := by omega
          go_wp2_with fail
          go_at_call 12
          have hpl : ((l0.drop m).take n).length = n := by simp; omega
          have hx1 : Rd w 1 (.slice (addS ar cr 0) n cr) ((l0.drop m).take n).length (bytesV ((l0.drop m).take n)) := by
            have h := HRR.out.cut (l := 0) (m := n) (Nat.zero_le _) hn
            rw [hpl]; simpa [bytesV, List.map_take] using h
          have hrun := runD_append [] (l0.take m) ((l0.drop m).take n)
          rw [← List.take_add] at hrun
          have hwt := runD_waits (l0.take m) [] (Or.inl rfl)
          refine (dd_write HDD.out hwt _ _ hx1 (fun x hx => HW0.out x (List.mem_of_mem_drop (List.mem_of_mem_take hx))) (by omega)).mono ?_
          have hl2 := runD_len ((l0.drop m).take n) (runD [] (l0.take m)).1
          rw [hpl] at hl2
          generalize runD (runD [] (l0.take m)).1 ((l0.drop m).take n) = so at *
          obtain ⟨s2, o2⟩ := so
          have HRUN := Lib.hid hrun
          clear hrun hwt hx1
          rintro e wE ⟨v, rfl, hv, hD2, hrows, hvb, hsz⟩
          have hgo2 := hrows _ _ _ HGO.out
          have hwo2 := hrows _ _ _ HWO.out
          obtain ⟨av, cv, rfl, _, _, hvn, _⟩ := hv.form
          have hvr := hv.rd
          have hnews : Hid (∀ a, av = some a → ∀ j u, (runesV o2)[j]? = some u → wE.cell? (a.add j) = some u) := fun a ha j u hu => by
            obtain ⟨b', o', h1, h2⟩ := hvr.cell hu
            rw [ha] at h1
            cases h1
            rw [Addr.add_lit]; exact h2
          have hone : Hid (∀ u ∈ runesV o2, u.oneCell' = true) := fun u hu => by obtain ⟨x, _, rfl⟩ := List.mem_map.1 hu; rfl
          have HVN := Lib.hid hvn
          have HD2 := Lib.hid hD2
          have HGO2 := Lib.hid hgo2
          have HWO2 := Lib.hid hwo2
          clear hvn hvr hv hD2 hgo2 hwo2 hrows hvb HGO HWO HDD
          simp only at hl2
          go_wp2_with (at_builtin; refine wpList_app rfl (.tmp 55) (.tmp 60) 31 rfl 21 (.int .i32 0) 1 4 i_rune u_runes rfl (by decide) _ lg _ rfl HGO2.out av o2.length cv (runesV o2) rfl HVN.out (by simp [runesV]) hnews.out hone.out (by unfold maxLen; omega) (by omega) ?_)
          intro v5 w5 ho5 hch5 hfo5
          have hdd5 := HD2.out.row HGO2.out (fun k hk => (HGB.out k hk).1) hch5
          have hwo5 := HWO2.out.kept hch5 (fun k hk hg => (HGB.out k hg).2 hk)
          have hgb5 : ∀ k, blkOf v5 k → w.heap.size ≤ k ∧ ¬ blkOf want k := fun k hk => by
            rcases hfo5 k hk with h | h
            · exact HGB.out k h
            · exact ⟨Nat.le_trans HD2.out.chg.size h, fun hw => by have := HWO2.out.lt hw; omega⟩
          have hrr5 : Rd w 1 (.slice (addS ar cr n) (p - n) (cr - n)) (l0.length - (m + n)) (bytesV (l0.drop (m + n))) := by
            have h := HRR.out.cut (l := n) (m := p) hn (Nat.le_refl _)
            have e : l0.length - (m + n) = p - n := by omega
            have e2 : (bytesV (l0.drop m)).take p = bytesV (l0.drop m) := List.take_of_length_le (by simp [bytesV]; omega)
            rw [e2] at h
            rw [e, ← List.drop_drop]
            simpa [bytesV, List.map_drop] using h
          have HF5 : Hid (Fed w w5 d x l0 (m + n) (.slice (addS ar cr n) (p - n) (cr - n)) v5 want) := Lib.hid (by
            refine ⟨by omega, ?_, hrr5, ?_, hwo5, hgb5⟩
            · rw [HRUN.out]; exact hdd5
            · rw [HRUN.out, List.length_append, hG]
              simpa [runesV] using ho5)
          clear ho5 hch5 hfo5 hdd5 hwo5 hgb5 hrr5
          go_wp2
          go_roundw
          case rel =>
            refine ⟨k + 1, m + n, by omega, by go_num, fun h => ?_, HF5⟩
            have := HKN.out (by omega)
            omega
          case measure => simp [intOf]; omega
      · obtain rfl : k = len1 + 1 := by omega
        have hki : ¬ ((len1 + 1 : Nat) : Int) ≤ (len1 : Int) := by omega
        have hki2 : ¬ ((len1 : Int) + 1 ≤ (len1 : Int)) := by omega
        obtain rfl := HKM.out rfl
        rw [List.take_length] at *
        go_wp2_with fail
        go_at_call 9
        refine (ufirst_any wr).mono ?_
        rintro e wF ⟨rfl, hF⟩
        have hlw := runD_len l0 []
        have hpn := (runD_waits l0 [] (Or.inl rfl)).len
        have HDD2 := Lib.hid (HDD.out.kept hF)
        have HGO2 := Lib.hid (HGO.out.kept hF (fun _ _ => id))
        have HWO2 := Lib.hid (HWO.out.kept hF (fun _ _ => id))
        clear hF HDD HGO HWO HKM HRR
        generalize runD [] l0 = so at *
        obtain ⟨s, o⟩ := so
        simp only at hlw hpn
        go_wp2_with fail
        go_at_call 11
        refine (runes_eq wF _ want o o HGO2.out.rd HWO2.out.rd (by omega) (by omega)).mono ?_
        rintro e wG ⟨rfl, hG⟩
        rw [decide_eq_true rfl]
        have HDD3 := Lib.hid (HDD2.out.kept hG)
        clear hG HDD2
        go_wp2_with fail
        go_at_call 14
        refine (d_pending HDD3.out.left).mono ?_
        rintro e w' ⟨rfl, rfl⟩
        go_wp2_with fail
        go_at_call 14
        refine (d_pending HDD3.out.right).mono ?_
        rintro e w' ⟨rfl, rfl⟩
        have hss : ((s.length : Int) == (s.length : Int)) = true := by simp
        go_wp2_with fail
        go_at_call 14
        refine (d_pending HDD3.out.right).mono ?_
        rintro e w' ⟨rfl, rfl⟩
        have hp3 : (s.length : Int) ≤ 3 := by omega
        go_wp2
        go_ret
        exact ⟨by simp, HDD3.out.chg⟩
  · by_cases hA : len0 ≤ 2000
    · have hn0 : ¬ (2000 : Int) < (len0 : Int) := by omega
      have hn1 : (200 : Int) < (len1 : Int) := by omega
      go_enter Try.func4, Try.ntmps4
      go_wp2_with fail
      go_at_call 9
      refine (ufirst_any w).mono ?_
      rintro e wA ⟨rfl, hA⟩
      have HA := Lib.hid hA
      clear hA
      go_wp2_with fail
      go_at_call 9
      refine (ufirst_any wA).mono ?_
      rintro e wB ⟨rfl, hB⟩
      go_wp2
      go_ret
      exact ⟨rfl, HA.out.trans hB fun _ _ h => h⟩
    · have hn0 : (2000 : Int) < (len0 : Int) := by omega
      go_enter Try.func4, Try.ntmps4
      go_wp2_with fail
      go_at_call 9
      refine (ufirst_any w).mono ?_
      rintro e wA ⟨rfl, hA⟩
      have HA := Lib.hid hA
      clear hA
      go_wp2_with fail
      go_at_call 9
      refine (ufirst_any wA).mono ?_
      rintro e wB ⟨rfl, hB⟩
      go_wp2
      go_ret
      exact ⟨rfl, HA.out.trans hB fun _ _ h => h⟩
end Go.Proofs.Ytfcgjnmbbgioiaa
