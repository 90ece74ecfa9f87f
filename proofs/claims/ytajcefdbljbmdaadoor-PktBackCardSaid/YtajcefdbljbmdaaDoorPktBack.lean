/-
  PktBack: what was sealed is opened; what was turned is refused, unless it bears the right tag.
-/
import Derived.Test.YtajcefdbljbmdaaDoorPk6
namespace Go.Proofs.YtajcefdbljbmdaaDoor
open Go.RowKit
set_option linter.unusedVariables false
set_option linter.unusedSimpArgs false

theorem openL_tag {k b : List Int} (h : 26 ≤ b.length) (ht : tagL k (b.take (b.length - 16)) ≠ b.drop (b.length - 16)) : (openL k b).2 = 15 := by
  unfold openL
  rw [if_neg (by omega), if_neg ht]
theorem openL_byte (K B : List Int) (hb : ∀ x ∈ B, 0 ≤ x ∧ x ≤ 255) : ∀ x ∈ (openL K B).1.b, 0 ≤ x ∧ x ≤ 255 := by
  unfold openL
  split
  · intro x hx; cases hx
  · split
    · split
      · intro x hx; exact hb x (List.mem_of_mem_take (List.mem_of_mem_drop hx))
      · intro x hx; cases hx
    · intro x hx; cases hx
def inBack (a b : Nat) (p : Pk) (c : Int) : Prop := a ≤ 1000 ∧ b ≤ 1000 ∧ p.May ∧ 0 ≤ c
attribute [local go_sem ↓] run_cut_h run_cut_l
set_option maxRecDepth 100000 in
set_option maxHeartbeats 1500000 in
theorem PktBack_walk (a0 : Option Addr) (len0 cap0 : Nat) (a1 : Option Addr) (len1 cap1 : Nat) (pd2 pv2 pn2 : Int) (pa2 : Option Addr) (pc2 : Nat) (pb2 : List Int) (a3 : Int) (w : World) (l0 l1 : List Int)
    (hr0 : Rd w 1 (.slice a0 len0 cap0) len0 (l0.map (Value.int .u8))) (hl0 : l0.length = len0) (y0 : len0 * 1 ≤ 140737488351232) (w0 : ∀ x ∈ l0, 0 ≤ x ∧ x ≤ 255) (nk0 : NilOk (.slice a0 len0 cap0))
    (hr1 : Rd w 1 (.slice a1 len1 cap1) len1 (l1.map (Value.int .u8))) (hl1 : l1.length = len1) (y1 : len1 * 1 ≤ 140737488351232) (w1 : ∀ x ∈ l1, 0 ≤ x ∧ x ≤ 255) (nk1 : NilOk (.slice a1 len1 cap1))
    (h2 : By w (.slice pa2 pb2.length pc2) pb2) (w2 : Pk.Ok ⟨pd2, pv2, pn2, pb2⟩) (w3 : -9223372036854775808 ≤ a3 ∧ a3 ≤ 9223372036854775807) (ht : Tab w) :
    Calls Tryd.prog 8 #[.slice a0 len0 cap0, .slice a1 len1 cap1, pkV ⟨pd2, pv2, pn2, pb2⟩ (.slice pa2 pb2.length pc2), .int .i64 a3] w fun e w' => e = .returned (.bool true) ∧ Chg w w' nob := by
  subst hl0 hl1
  have K0 : Hid (By w (.slice a0 l0.length cap0) l0) := Lib.hid ⟨hr0, nk0, w0⟩
  have K1 : Hid (By w (.slice a1 l1.length cap1) l1) := Lib.hid ⟨hr1, nk1, w1⟩
  have KP := Lib.hid h2
  have WP := Lib.hid w2
  have HT := Lib.hid ht
  obtain ⟨v3, v3'⟩ := w3
  have i0 : (0 : Int) ≤ (l0.length : Int) := by omega
  have i1 : (0 : Int) ≤ (l1.length : Int) := by omega
  have i2 : (0 : Int) ≤ (pb2.length : Int) := by omega
  clear hr0 nk0 w0 hr1 nk1 w1 h2 w2 ht
  simp only [pkV]
  by_cases hin : inBack l0.length l1.length ⟨pd2, pv2, pn2, pb2⟩ a3
  · obtain ⟨h1, h2, hmy, h4⟩ := hin
    have hbl : pb2.length ≤ 1200 := hmy.2.2.2.2.2
    have HMY := Lib.hid hmy
    have HMD := Lib.hid (decide_eq_true hmy)
    have j0 : (l0.length : Int) ≤ 1000 := by omega
    have j1 : (l1.length : Int) ≤ 1000 := by omega
    have j2 : (pb2.length : Int) ≤ 1200 := by omega
    clear hmy
    go_enter Tryd.func8, Tryd.ntmps8
    go_wp2_with fail
    go_at_call 23
    obtain ⟨w1, hw1⟩ : ∃ W, w.alloc (.cells #[.int .i64 pd2, .int .i64 pv2, .int .u64 pn2, .slice pa2 pb2.length pc2] 43) = W := ⟨_, rfl⟩
    have HP : Hid (Blk w1 w.heap.size 43 #[.int .i64 pd2, .int .i64 pv2, .int .u64 pn2, .slice pa2 pb2.length pc2]) := Lib.hid (by rw [← hw1]; exact Blk.new w _ _)
    have HC : Hid (Chg w w1 nob) := Lib.hid (by rw [← hw1]; exact (Chg.refl w nob).alloc _)
    rw [hw1]
    clear hw1
    refine (first25_any w1 (HT.out.kept HC.out id)).mono ?_
    rintro e u1 ⟨rfl, hck⟩
    replace HC : Hid (Chg w u1 nob) := Lib.hid (HC.out.trans hck (fun _ _ h => h))
    replace HP := Lib.hid (HP.out.kept hck id)
    clear hck
    have q0 := HP.out.cell 0
    have q1 := HP.out.cell 1
    have q2 := HP.out.cell 2
    have q3 := HP.out.cell 3
    simp only [List.getElem?_toArray, List.getElem?_cons_zero, List.getElem?_cons_succ] at q0 q1 q2 q3
    go_wp2_with fail
    go_at_call 34
    refine (may_any u1 ⟨pd2, pv2, pn2, pb2⟩ _ (KP.out.kept HC.out)).mono ?_
    rw [HMD.out]
    rintro e u2 ⟨rfl, hck⟩
    clear q0 q1 q2 q3
    replace HC : Hid (Chg w u2 nob) := Lib.hid (HC.out.trans hck (fun _ _ h => h))
    replace HP := Lib.hid (HP.out.kept hck id)
    clear hck
    have q0 := HP.out.cell 0
    have q1 := HP.out.cell 1
    have q2 := HP.out.cell 2
    have q3 := HP.out.cell 3
    simp only [List.getElem?_toArray, List.getElem?_cons_zero, List.getElem?_cons_succ] at q0 q1 q2 q3
    go_wp2_with fail
    go_at_call 28
    have HSB : Hid (∀ x ∈ sealL l0 ⟨pd2, pv2, pn2, pb2⟩, 0 ≤ x ∧ x ≤ 255) := Lib.hid (sealL_byte _ _ KP.out.byte)
    have hsl := sealL_len l0 ⟨pd2, pv2, pn2, pb2⟩
    have HOS : Hid (openL l0 (sealL l0 ⟨pd2, pv2, pn2, pb2⟩) = (⟨pd2, pv2, pn2, pb2⟩, 0)) := Lib.hid (open_seal _ _ HMY.out)
    have hs := seal_any u2 ⟨pd2, pv2, pn2, pb2⟩ l0 _ _ (HT.out.kept HC.out id) (K0.out.kept HC.out) (KP.out.kept HC.out) WP.out (by omega) (by (show pb2.length ≤ 100000); omega)
    rw [show sealR l0 ⟨pd2, pv2, pn2, pb2⟩ = sealL l0 ⟨pd2, pv2, pn2, pb2⟩ from if_pos HMY.out, show sealE ⟨pd2, pv2, pn2, pb2⟩ = 0 from if_pos HMY.out] at hs
    obtain ⟨S, hS⟩ : ∃ S, sealL l0 ⟨pd2, pv2, pn2, pb2⟩ = S := ⟨_, rfl⟩
    rw [hS] at hs HSB hsl HOS
    simp only at hsl
    refine hs.mono ?_
    clear hs hS
    rintro e u3 ⟨x, rfl, hb⟩
    have HS := Lib.hid (By.ofBx hb HSB.out)
    have hck := hb.2.1
    clear q0 q1 q2 q3
    replace HC : Hid (Chg w u3 nob) := Lib.hid (HC.out.trans hck (fun _ _ h => h))
    replace HP := Lib.hid (HP.out.kept hck id)
    obtain ⟨ax, cx, rfl, hcx⟩ := hb.1.form
    have HCX := Lib.hid hcx.1
    obtain ⟨m, hm⟩ : ∃ m, S.length = m := ⟨_, rfl⟩
    have HM := Lib.hid hm
    rw [hm] at hsl
    have HSL := Lib.hid hsl
    have hsi : (m : Int) = 26 + (pb2.length : Int) := by omega
    have HSI := Lib.hid hsi
    have HSm : Hid (By u3 (.slice ax m cx) S) := Lib.hid (by have h := HS.out; rw [hm] at h; exact h)
    replace HS := HSm
    have hm1 : m ≤ 1226 := by omega
    have hm2 : 26 ≤ m := by omega
    obtain ⟨E, hE⟩ : ∃ E, m = E + 16 := ⟨m - 16, by omega⟩
    have HE := Lib.hid hE
    have hEi : (m : Int) - 16 = (E : Int) := by omega
    clear hE
    rw [hm]
    clear hck hb hcx hsl hm HSm hsi
    have q0 := HP.out.cell 0
    have q1 := HP.out.cell 1
    have q2 := HP.out.cell 2
    have q3 := HP.out.cell 3
    simp only [List.getElem?_toArray, List.getElem?_cons_zero, List.getElem?_cons_succ] at q0 q1 q2 q3
    go_wp2_with fail
    go_at_call 31
    have ho := open_any u3 l0 S _ _ (HT.out.kept HC.out id) (K0.out.kept HC.out) HS.out (by omega) (by rw [HM.out]; omega)
    rw [HOS.out] at ho
    refine ho.mono ?_
    clear ho
    rintro e u4 ⟨z, rfl, hb⟩
    have HZ : Hid (By u4 z pb2) := Lib.hid (By.ofBx hb KP.out.byte)
    have hck := hb.2.1
    clear q0 q1 q2 q3
    replace HC : Hid (Chg w u4 nob) := Lib.hid (HC.out.trans hck (fun _ _ h => h))
    replace HP := Lib.hid (HP.out.kept hck id)
    replace HS := Lib.hid (HS.out.kept hck)
    obtain ⟨az, cz, rfl, _⟩ := hb.1.form
    clear hck hb
    simp only [pkV]
    obtain ⟨u5, hu5⟩ : ∃ W, u4.alloc (.cells #[.int .i64 pd2, .int .i64 pv2, .int .u64 pn2, .slice az pb2.length cz] 43) = W := ⟨_, rfl⟩
    have hck : Chg u4 u5 nob := by rw [← hu5]; exact (Chg.refl u4 nob).alloc _
    have hU5 : Blk u5 u4.heap.size 43 #[.int .i64 pd2, .int .i64 pv2, .int .u64 pn2, .slice az pb2.length cz] := by rw [← hu5]; exact Blk.new u4 _ _
    replace HC : Hid (Chg w u5 nob) := Lib.hid (HC.out.trans hck (fun _ _ h => h))
    replace HP := Lib.hid (HP.out.kept hck id)
    have q0 := HP.out.cell 0
    have q1 := HP.out.cell 1
    have q2 := HP.out.cell 2
    have q3 := HP.out.cell 3
    simp only [List.getElem?_toArray, List.getElem?_cons_zero, List.getElem?_cons_succ] at q0 q1 q2 q3
    have s0 := hU5.cell 0
    have s1 := hU5.cell 1
    have s2 := hU5.cell 2
    have s3 := hU5.cell 3
    simp only [List.getElem?_toArray, List.getElem?_cons_zero, List.getElem?_cons_succ] at s0 s1 s2 s3
    rw [← hu5] at q0 q1 q2 q3 s0 s1 s2 s3
    have HU5 := Lib.hid hu5
    have hcka := Lib.hid hck
    clear hU5 hck hu5
    go_wp2_with fail
    go_at_call 36
    have hck := hcka.out
    have hu5 := HU5.out
    rw [hu5]
    clear q0 q1 q2 q3 s0 s1 s2 s3
    replace HS := Lib.hid (HS.out.kept hck)
    replace HZ := Lib.hid (HZ.out.kept hck)
    clear hck hu5
    refine (same_any u5 ⟨pd2, pv2, pn2, pb2⟩ ⟨pd2, pv2, pn2, pb2⟩ _ _ HZ.out (KP.out.kept HC.out)).mono ?_
    rw [show decide ((⟨pd2, pv2, pn2, pb2⟩ : Pk) = ⟨pd2, pv2, pn2, pb2⟩) = true from decide_eq_true rfl]
    rintro e u6 ⟨rfl, hck⟩
    replace HC : Hid (Chg w u6 nob) := Lib.hid (HC.out.trans hck (fun _ _ h => h))
    replace HP := Lib.hid (HP.out.kept hck id)
    replace HS := Lib.hid (HS.out.kept hck)
    clear hck HZ
    have q0 := HP.out.cell 0
    have q1 := HP.out.cell 1
    have q2 := HP.out.cell 2
    have q3 := HP.out.cell 3
    simp only [List.getElem?_toArray, List.getElem?_cons_zero, List.getElem?_cons_succ] at q0 q1 q2 q3
    have hmn : ((m : Int) != (10 + (pb2.length : Int) + 16)) = false := by have := HSI.out; simp; omega
    have hmn' : (10 : Int) + (pb2.length : Int) + 16 = (m : Int) := by have := HSI.out; omega
    go_wp2_with fail
    go_at_call 16
    refine (copy_by HS.out (by have h1 := HM.out; have h2 := HSL.out; omega)).mono ?_
    rintro e u7 ⟨v7, rfl, hb⟩
    have hck := hb.2.1
    have HS6 := HS
    have HC6 := HC
    clear q0 q1 q2 q3
    replace HC : Hid (Chg w u7 nob) := Lib.hid (HC.out.trans hck (fun _ _ h => h))
    replace HP := Lib.hid (HP.out.kept hck id)
    replace HS := Lib.hid (HS.out.kept hck)
    have ho := hb.1
    rw [HM.out] at ho
    obtain ⟨a7, c7, rfl, hc7, _⟩ := ho.form
    have h0m : 0 < m := by omega
    obtain ⟨g7, rfl, _⟩ := ho.at (j := 0) h0m
    have hg7 := hb.2.2 g7 rfl
    obtain ⟨y, hy⟩ : ∃ y : Nat, a3 = (y : Int) := ⟨a3.toNat, by omega⟩
    subst hy
    obtain ⟨q, hq⟩ : ∃ q, 8 * m = q := ⟨_, rfl⟩
    have hqi : 8 * (m : Int) = (q : Int) := by omega
    have hq0 : ¬ q = 0 := by omega
    have hq1 : q ≤ 10000 := by omega
    obtain ⟨k, hk⟩ : ∃ k, y % q = k := ⟨_, rfl⟩
    have hkl : k < q := by rw [← hk]; exact Nat.mod_lt _ (by omega)
    have hmod : Int.tmod (y : Int) (q : Int) = (k : Int) := by rw [Int.tmod_eq_emod_of_nonneg (by omega)]; omega
    obtain ⟨j, hj⟩ : ∃ j, k / 8 = j := ⟨_, rfl⟩
    have hjm : j < m := by omega
    have hdiv : Int.tdiv (k : Int) 8 = (j : Int) := by rw [Int.tdiv_eq_ediv_of_nonneg (by omega)]; omega
    obtain ⟨t, ht⟩ : ∃ t, k % 8 = t := ⟨_, rfl⟩
    have htm : Int.tmod (k : Int) 8 = (t : Int) := by rw [Int.tmod_eq_emod_of_nonneg (by omega)]; omega
    have ht8 : t < 8 := by omega
    have hji : (j : Int) < (m : Int) := by omega
    have hj0 : (0 : Int) ≤ (j : Int) := by omega
    have hcj : u7.cell? ⟨g7, j, none⟩ = some (.int .u8 (S.getD j 0)) := by
      obtain ⟨g', e, h⟩ := ho.at (j := j) hjm
      cases e
      rw [h, bytesV, List.getElem?_map]
      simp [List.getD, show j < S.length by rw [HM.out]; exact hjm]
    obtain ⟨cur, hbk⟩ := ho.row (k := g7) rfl
    have hfz := hbk.free j
    have HO7 := Lib.hid ho
    obtain ⟨x7, hx7⟩ : ∃ x, S.getD j 0 = x := ⟨_, rfl⟩
    rw [hx7] at hcj
    have HE0 : Hid (E + 16 = m) := Lib.hid HE.out.symm
    clear hk hj ht hq hb hck hx7 ho hbk
    go_upto_region 12 with (fail)
    go_cut [] (fun wx => ∃ z : Int, Hid (0 ≤ z ∧ z ≤ 255) ∧ wx = u7.setCell ⟨g7, j, none⟩ (.int .u8 z))
    case first =>
      go_wp2
      go_meet
      exact ⟨_, Lib.hid ⟨bits_lo_u8 _ _ _, bits_hi_u8 _ _ _⟩, rfl⟩
    case rest =>
      obtain ⟨z, HZB, hwz⟩ := hcut
      rename World => u8
      have hst := (HO7.out.stored j (.int .u8 z)).1
      have HTL : Hid ((S.set j z).length = m) := Lib.hid (by rw [List.length_set, HM.out])
      have hB : By u8 (.slice (some ⟨g7, 0, none⟩) m c7) (S.set j z) := by
        rw [hwz]
        refine ⟨?_, fun n c e => (by cases e), fun x hx => ?_⟩
        · rw [HTL.out]
          have h := Own.rd hst
          simpa [bytesV, List.map_set] using h
        · rcases List.mem_or_eq_of_mem_set hx with h | rfl
          · exact HSB.out x h
          · exact HZB.out
      have hcr : Chg u7 u8 (fun k => k = g7) := by rw [hwz]; exact (Chg.refl u7 (fun k => k = g7)).setCell (.inl rfl) _
      replace HS : Hid (By u8 (.slice ax m cx) S) := Lib.hid (HS.out.keptF hcr (fun k hk e => by
        have h1 := HS6.out.lt (by intro h0; rw [h0] at HM; have := HM.out; simp at this; omega) hk
        omega))
      replace HC : Hid (Chg w u8 nob) := Lib.hid (HC.out.trans hcr (fun i hi e => by have h1 := HC6.out.size; omega))
      obtain ⟨T, hT⟩ : ∃ T, S.set j z = T := ⟨_, rfl⟩
      rw [hT] at hB HTL
      have HBT := Lib.hid hB
      clear hB hcr hst hT hwz hcj hfz HO7
      have ho1 := open_any u8 l0 T _ _ (HT.out.kept HC.out id) (K0.out.kept HC.out) HBT.out (by omega) (by rw [HTL.out]; omega)
      have HC1 : Hid (tagL l0 (T.take E) ≠ T.drop E → (openL l0 T).2 = 15) := Lib.hid (fun h => openL_tag (by rw [HTL.out]; omega) (by rw [HTL.out, ← HE0.out, Nat.add_sub_cancel]; exact h))
      obtain ⟨R1, hR1⟩ : ∃ R, openL l0 T = R := ⟨_, rfl⟩
      rw [hR1] at ho1 HC1
      obtain ⟨⟨rd, rv, rn, rb⟩, rc⟩ := R1
      simp only at ho1 HC1
      go_wp2_with fail
      go_at_call 31
      refine ho1.mono ?_
      clear ho1 hR1
      rintro e u9 ⟨z1, rfl, hb⟩
      have hck := hb.2.1
      obtain ⟨az1, cz1, rfl, _⟩ := hb.1.form
      replace HC : Hid (Chg w u9 nob) := Lib.hid (HC.out.trans hck (fun _ _ h => h))
      replace HS := Lib.hid (HS.out.kept hck)
      replace HBT := Lib.hid (HBT.out.kept hck)
      clear hb hck
      simp only [pkV]
      go_wp2_with fail
      go_at_call 31
      obtain ⟨v1, hv1⟩ : ∃ W, u9.alloc (.cells #[.int .i64 rd, .int .i64 rv, .int .u64 rn, .slice az1 rb.length cz1] 43) = W := ⟨_, rfl⟩
      have hck : Chg u9 v1 nob := by rw [← hv1]; exact (Chg.refl u9 nob).alloc _
      rw [hv1]
      replace HC : Hid (Chg w v1 nob) := Lib.hid (HC.out.trans hck (fun _ _ h => h))
      replace HS := Lib.hid (HS.out.kept hck)
      replace HBT := Lib.hid (HBT.out.kept hck)
      clear hck hv1
      have ho2 := open_any v1 l1 S _ _ (HT.out.kept HC.out id) (K1.out.kept HC.out) HS.out (by omega) (by rw [HM.out]; omega)
      have HC2 : Hid (tagL l1 (S.take E) ≠ S.drop E → (openL l1 S).2 = 15) := Lib.hid (fun h => openL_tag (by rw [HM.out]; omega) (by rw [HM.out, ← HE0.out, Nat.add_sub_cancel]; exact h))
      obtain ⟨R2, hR2⟩ : ∃ R, openL l1 S = R := ⟨_, rfl⟩
      rw [hR2] at ho2 HC2
      obtain ⟨⟨sd, sv, sn, sb⟩, sc⟩ := R2
      simp only at ho2 HC2
      refine ho2.mono ?_
      clear ho2 hR2
      rintro e v2 ⟨z2, rfl, hb⟩
      have hck := hb.2.1
      obtain ⟨az2, cz2, rfl, _⟩ := hb.1.form
      replace HC : Hid (Chg w v2 nob) := Lib.hid (HC.out.trans hck (fun _ _ h => h))
      replace HS := Lib.hid (HS.out.kept hck)
      replace HBT := Lib.hid (HBT.out.kept hck)
      clear hb hck
      simp only [pkV]
      obtain ⟨f1, hf1⟩ : ∃ b, decide (tagL l0 (T.take E) = T.drop E) = b := ⟨_, rfl⟩
      have HF1 := Lib.hid hf1
      obtain ⟨f2, hf2⟩ : ∃ b, decide (tagL l1 (S.take E) = S.drop E) = b := ⟨_, rfl⟩
      have HF2 := Lib.hid hf2
      clear hf1 hf2
      have e0 : (0 : Int) ≤ (E : Int) := by omega
      have hEm : E ≤ m := by have := HE0.out; omega
      have e1 : (E : Int) ≤ (m : Int) := by omega
      have e2 : (E : Int) ≤ (c7 : Int) := by omega
      have e3 : (E : Int) ≤ (cx : Int) := by have := HCX.out; have := HM.out; omega
      go_wp2_with fail
      obtain ⟨v3, hv3⟩ : ∃ W, v2.alloc (.cells #[.int .i64 sd, .int .i64 sv, .int .u64 sn, .slice az2 sb.length cz2] 43) = W := ⟨_, rfl⟩
      have hck : Chg v2 v3 nob := by rw [← hv3]; exact (Chg.refl v2 nob).alloc _
      rw [hv3]
      replace HC : Hid (Chg w v3 nob) := Lib.hid (HC.out.trans hck (fun _ _ h => h))
      replace HS := Lib.hid (HS.out.kept hck)
      replace HBT := Lib.hid (HBT.out.kept hck)
      clear hck hv3
      refine wp_one [] [4, 8] [] [0, 1, 2, 3, 5, 6, 7, 4, 8, 9] rfl (by kernel_rfl) (fun _ _ _ _ _ h => h) ?_; simp only [List.map_cons, List.map_nil, List.getElem?_toArray, List.getElem?_cons_zero, List.getElem?_cons_succ]
      obtain ⟨v4d, hv4d⟩ : ∃ W, World.drew v3 = W := ⟨_, rfl⟩
      have hck : Chg v3 v4d nob := by rw [← hv4d]; exact (Chg.refl v3 nob).drew
      rw [hv4d]
      replace HC : Hid (Chg w v4d nob) := Lib.hid (HC.out.trans hck (fun _ _ h => h))
      replace HS := Lib.hid (HS.out.kept hck)
      replace HBT := Lib.hid (HBT.out.kept hck)
      clear hck hv4d
      (repeat (first | (apply can0; (· rfl); (· rfl); (· (intro w'; first | (go_simp; with_reducible rfl) | (go_simp; done))); simp only [Act.put, List.setIfInBounds_toArray, List.set_cons_zero, List.set_cons_succ]) | (apply can1; (· rfl); (· rfl); (· (first | (go_simp; with_reducible rfl) | (go_simp; done))); simp only [Act.put, List.setIfInBounds_toArray, List.set_cons_zero, List.set_cons_succ]) | (apply canN; (· rfl); (· rfl); simp only [Act.put, List.setIfInBounds_toArray, List.set_cons_zero, List.set_cons_succ]) | (apply canN1; (· rfl); (· rfl); simp only [Act.put, List.setIfInBounds_toArray, List.set_cons_zero, List.set_cons_succ]) | (apply can0; (· rfl); (· (go_simp; done)); (· (intro w'; first | (go_simp; with_reducible rfl) | (go_simp; done))); simp only [Act.put, List.setIfInBounds_toArray, List.set_cons_zero, List.set_cons_succ]) | (apply can1; (· rfl); (· (go_simp; done)); (· (first | (go_simp; with_reducible rfl) | (go_simp; done))); simp only [Act.put, List.setIfInBounds_toArray, List.set_cons_zero, List.set_cons_succ]) | (apply canN; (· rfl); (· (go_simp; done)); simp only [Act.put, List.setIfInBounds_toArray, List.set_cons_zero, List.set_cons_succ]) | (apply canN1; (· rfl); (· (go_simp; done)); simp only [Act.put, List.setIfInBounds_toArray, List.set_cons_zero, List.set_cons_succ])))
      refine canW rfl [] rfl (fun K hK => ?_)
      go_simp
      go_at_call 22
      have hby : By v4d (.slice (some ⟨g7, 0, none⟩) T.length c7) T := by rw [HTL.out]; exact HBT.out
      have htk : By v4d (.slice (addS (some ⟨g7, 0, none⟩) c7 0) E c7) (T.take E) := hby.take (by rw [HTL.out]; exact hEm)
      have hdr : By v4d (.slice (addS (some ⟨g7, 0, none⟩) c7 E) (m - E) (c7 - E)) (T.drop E) := by have h := hby.drop (l := E) (by rw [HTL.out]; exact hEm); rw [HTL.out] at h; exact h
      have HDR := Lib.hid hdr
      refine (rtag_by (K0.out.kept HC.out) htk (by omega) (by simp; omega)).mono ?_
      clear hby htk hdr
      rintro e v5 ⟨tv, rfl, hb, hck⟩
      have HTV := Lib.hid hb
      replace HDR := Lib.hid (HDR.out.kept hck)
      replace HC : Hid (Chg w v5 nob) := Lib.hid (HC.out.trans hck (fun _ _ h => h))
      replace HS := Lib.hid (HS.out.kept hck)
      replace HBT := Lib.hid (HBT.out.kept hck)
      clear hb hck
      (refine hK _ _ (fun u hu => by cases hu) ?_; clear hK K; try simp only [Act.put, List.setIfInBounds_toArray, List.set_cons_zero, List.set_cons_succ])
      (repeat (first | (apply can0; (· rfl); (· rfl); (· (intro w'; first | (go_simp; with_reducible rfl) | (go_simp; done))); simp only [Act.put, List.setIfInBounds_toArray, List.set_cons_zero, List.set_cons_succ]) | (apply can1; (· rfl); (· rfl); (· (first | (go_simp; with_reducible rfl) | (go_simp; done))); simp only [Act.put, List.setIfInBounds_toArray, List.set_cons_zero, List.set_cons_succ]) | (apply canN; (· rfl); (· rfl); simp only [Act.put, List.setIfInBounds_toArray, List.set_cons_zero, List.set_cons_succ]) | (apply canN1; (· rfl); (· rfl); simp only [Act.put, List.setIfInBounds_toArray, List.set_cons_zero, List.set_cons_succ]) | (apply can0; (· rfl); (· (go_simp; done)); (· (intro w'; first | (go_simp; with_reducible rfl) | (go_simp; done))); simp only [Act.put, List.setIfInBounds_toArray, List.set_cons_zero, List.set_cons_succ]) | (apply can1; (· rfl); (· (go_simp; done)); (· (first | (go_simp; with_reducible rfl) | (go_simp; done))); simp only [Act.put, List.setIfInBounds_toArray, List.set_cons_zero, List.set_cons_succ]) | (apply canN; (· rfl); (· (go_simp; done)); simp only [Act.put, List.setIfInBounds_toArray, List.set_cons_zero, List.set_cons_succ]) | (apply canN1; (· rfl); (· (go_simp; done)); simp only [Act.put, List.setIfInBounds_toArray, List.set_cons_zero, List.set_cons_succ])))
      refine canW rfl [] rfl (fun K hK => ?_)
      go_simp
      go_at_call 18
      refine (bytes_by HTV.out HDR.out).mono ?_
      rw [HF1.out]
      rintro e yy ⟨rfl, rfl⟩
      clear HTV HDR
      (refine hK _ _ (fun u hu => by cases hu) ?_; clear hK K; try simp only [Act.put, List.setIfInBounds_toArray, List.set_cons_zero, List.set_cons_succ])
      (repeat (first | (apply can0; (· rfl); (· rfl); (· (intro w'; first | (go_simp; with_reducible rfl) | (go_simp; done))); simp only [Act.put, List.setIfInBounds_toArray, List.set_cons_zero, List.set_cons_succ]) | (apply can1; (· rfl); (· rfl); (· (first | (go_simp; with_reducible rfl) | (go_simp; done))); simp only [Act.put, List.setIfInBounds_toArray, List.set_cons_zero, List.set_cons_succ]) | (apply canN; (· rfl); (· rfl); simp only [Act.put, List.setIfInBounds_toArray, List.set_cons_zero, List.set_cons_succ]) | (apply canN1; (· rfl); (· rfl); simp only [Act.put, List.setIfInBounds_toArray, List.set_cons_zero, List.set_cons_succ]) | (apply can0; (· rfl); (· (go_simp; done)); (· (intro w'; first | (go_simp; with_reducible rfl) | (go_simp; done))); simp only [Act.put, List.setIfInBounds_toArray, List.set_cons_zero, List.set_cons_succ]) | (apply can1; (· rfl); (· (go_simp; done)); (· (first | (go_simp; with_reducible rfl) | (go_simp; done))); simp only [Act.put, List.setIfInBounds_toArray, List.set_cons_zero, List.set_cons_succ]) | (apply canN; (· rfl); (· (go_simp; done)); simp only [Act.put, List.setIfInBounds_toArray, List.set_cons_zero, List.set_cons_succ]) | (apply canN1; (· rfl); (· (go_simp; done)); simp only [Act.put, List.setIfInBounds_toArray, List.set_cons_zero, List.set_cons_succ])))
      refine canE ?_
      go_wp2_with fail
      refine wp_one [] [4, 8] [] [0, 1, 2, 3, 5, 6, 7, 4, 8, 9] rfl (by kernel_rfl) (fun _ _ _ _ _ h => h) ?_; simp only [List.map_cons, List.map_nil, List.getElem?_toArray, List.getElem?_cons_zero, List.getElem?_cons_succ]
      obtain ⟨v6d, hv6d⟩ : ∃ W, World.drew v5 = W := ⟨_, rfl⟩
      have hck : Chg v5 v6d nob := by rw [← hv6d]; exact (Chg.refl v5 nob).drew
      rw [hv6d]
      replace HC : Hid (Chg w v6d nob) := Lib.hid (HC.out.trans hck (fun _ _ h => h))
      replace HS := Lib.hid (HS.out.kept hck)
      replace HBT := Lib.hid (HBT.out.kept hck)
      clear hck hv6d
      (repeat (first | (apply can0; (· rfl); (· rfl); (· (intro w'; first | (go_simp; with_reducible rfl) | (go_simp; done))); simp only [Act.put, List.setIfInBounds_toArray, List.set_cons_zero, List.set_cons_succ]) | (apply can1; (· rfl); (· rfl); (· (first | (go_simp; with_reducible rfl) | (go_simp; done))); simp only [Act.put, List.setIfInBounds_toArray, List.set_cons_zero, List.set_cons_succ]) | (apply canN; (· rfl); (· rfl); simp only [Act.put, List.setIfInBounds_toArray, List.set_cons_zero, List.set_cons_succ]) | (apply canN1; (· rfl); (· rfl); simp only [Act.put, List.setIfInBounds_toArray, List.set_cons_zero, List.set_cons_succ]) | (apply can0; (· rfl); (· (go_simp; done)); (· (intro w'; first | (go_simp; with_reducible rfl) | (go_simp; done))); simp only [Act.put, List.setIfInBounds_toArray, List.set_cons_zero, List.set_cons_succ]) | (apply can1; (· rfl); (· (go_simp; done)); (· (first | (go_simp; with_reducible rfl) | (go_simp; done))); simp only [Act.put, List.setIfInBounds_toArray, List.set_cons_zero, List.set_cons_succ]) | (apply canN; (· rfl); (· (go_simp; done)); simp only [Act.put, List.setIfInBounds_toArray, List.set_cons_zero, List.set_cons_succ]) | (apply canN1; (· rfl); (· (go_simp; done)); simp only [Act.put, List.setIfInBounds_toArray, List.set_cons_zero, List.set_cons_succ])))
      refine canW rfl [] rfl (fun K hK => ?_)
      go_simp
      go_at_call 22
      have hby : By v6d (.slice ax S.length cx) S := by rw [HM.out]; exact HS.out
      have htk : By v6d (.slice (addS ax cx 0) E cx) (S.take E) := hby.take (by rw [HM.out]; exact hEm)
      have hdr : By v6d (.slice (addS ax cx E) (m - E) (cx - E)) (S.drop E) := by have h := hby.drop (l := E) (by rw [HM.out]; exact hEm); rw [HM.out] at h; exact h
      have HDR := Lib.hid hdr
      refine (rtag_by (K1.out.kept HC.out) htk (by omega) (by simp; omega)).mono ?_
      clear hby htk hdr
      rintro e v7 ⟨tv, rfl, hb, hck⟩
      have HTV := Lib.hid hb
      replace HDR := Lib.hid (HDR.out.kept hck)
      replace HC : Hid (Chg w v7 nob) := Lib.hid (HC.out.trans hck (fun _ _ h => h))
      replace HS := Lib.hid (HS.out.kept hck)
      replace HBT := Lib.hid (HBT.out.kept hck)
      clear hb hck
      (refine hK _ _ (fun u hu => by cases hu) ?_; clear hK K; try simp only [Act.put, List.setIfInBounds_toArray, List.set_cons_zero, List.set_cons_succ])
      (repeat (first | (apply can0; (· rfl); (· rfl); (· (intro w'; first | (go_simp; with_reducible rfl) | (go_simp; done))); simp only [Act.put, List.setIfInBounds_toArray, List.set_cons_zero, List.set_cons_succ]) | (apply can1; (· rfl); (· rfl); (· (first | (go_simp; with_reducible rfl) | (go_simp; done))); simp only [Act.put, List.setIfInBounds_toArray, List.set_cons_zero, List.set_cons_succ]) | (apply canN; (· rfl); (· rfl); simp only [Act.put, List.setIfInBounds_toArray, List.set_cons_zero, List.set_cons_succ]) | (apply canN1; (· rfl); (· rfl); simp only [Act.put, List.setIfInBounds_toArray, List.set_cons_zero, List.set_cons_succ]) | (apply can0; (· rfl); (· (go_simp; done)); (· (intro w'; first | (go_simp; with_reducible rfl) | (go_simp; done))); simp only [Act.put, List.setIfInBounds_toArray, List.set_cons_zero, List.set_cons_succ]) | (apply can1; (· rfl); (· (go_simp; done)); (· (first | (go_simp; with_reducible rfl) | (go_simp; done))); simp only [Act.put, List.setIfInBounds_toArray, List.set_cons_zero, List.set_cons_succ]) | (apply canN; (· rfl); (· (go_simp; done)); simp only [Act.put, List.setIfInBounds_toArray, List.set_cons_zero, List.set_cons_succ]) | (apply canN1; (· rfl); (· (go_simp; done)); simp only [Act.put, List.setIfInBounds_toArray, List.set_cons_zero, List.set_cons_succ])))
      refine canW rfl [] rfl (fun K hK => ?_)
      go_simp
      go_at_call 18
      refine (bytes_by HTV.out HDR.out).mono ?_
      rw [HF2.out]
      rintro e yy ⟨rfl, rfl⟩
      clear HTV HDR
      (refine hK _ _ (fun u hu => by cases hu) ?_; clear hK K; try simp only [Act.put, List.setIfInBounds_toArray, List.set_cons_zero, List.set_cons_succ])
      (repeat (first | (apply can0; (· rfl); (· rfl); (· (intro w'; first | (go_simp; with_reducible rfl) | (go_simp; done))); simp only [Act.put, List.setIfInBounds_toArray, List.set_cons_zero, List.set_cons_succ]) | (apply can1; (· rfl); (· rfl); (· (first | (go_simp; with_reducible rfl) | (go_simp; done))); simp only [Act.put, List.setIfInBounds_toArray, List.set_cons_zero, List.set_cons_succ]) | (apply canN; (· rfl); (· rfl); simp only [Act.put, List.setIfInBounds_toArray, List.set_cons_zero, List.set_cons_succ]) | (apply canN1; (· rfl); (· rfl); simp only [Act.put, List.setIfInBounds_toArray, List.set_cons_zero, List.set_cons_succ]) | (apply can0; (· rfl); (· (go_simp; done)); (· (intro w'; first | (go_simp; with_reducible rfl) | (go_simp; done))); simp only [Act.put, List.setIfInBounds_toArray, List.set_cons_zero, List.set_cons_succ]) | (apply can1; (· rfl); (· (go_simp; done)); (· (first | (go_simp; with_reducible rfl) | (go_simp; done))); simp only [Act.put, List.setIfInBounds_toArray, List.set_cons_zero, List.set_cons_succ]) | (apply canN; (· rfl); (· (go_simp; done)); simp only [Act.put, List.setIfInBounds_toArray, List.set_cons_zero, List.set_cons_succ]) | (apply canN1; (· rfl); (· (go_simp; done)); simp only [Act.put, List.setIfInBounds_toArray, List.set_cons_zero, List.set_cons_succ])))
      refine canE ?_
      go_wp2_with fail
      go_at_call 23
      refine (first25_any v7 (HT.out.kept HC.out id)).mono ?_
      rintro e v8 ⟨rfl, hck⟩
      replace HC : Hid (Chg w v8 nob) := Lib.hid (HC.out.trans hck (fun _ _ h => h))
      clear hck HS HBT
      have h1 : f1 = false → rc = 15 := fun h => HC1.out (of_decide_eq_false (HF1.out.trans h))
      have h2 : f2 = false → sc = 15 := fun h => HC2.out (of_decide_eq_false (HF2.out.trans h))
      cases f1 <;> cases f2
      · obtain rfl := h1 rfl
        obtain rfl := h2 rfl
        go_wp2
        go_ret
        exact ⟨rfl, HC.out⟩
      · obtain rfl := h1 rfl
        go_wp2
        go_ret
        exact ⟨rfl, HC.out⟩
      · obtain rfl := h2 rfl
        go_wp2
        go_ret
        exact ⟨rfl, HC.out⟩
      · go_wp2
        go_ret
        exact ⟨rfl, HC.out⟩
  · have hin2 : Hid (¬ inBack l0.length l1.length ⟨pd2, pv2, pn2, pb2⟩ a3) := Lib.hid hin
    clear hin
    by_cases hmy : Pk.May ⟨pd2, pv2, pn2, pb2⟩
    · have HMY := Lib.hid hmy
      have HMD := Lib.hid (decide_eq_true hmy)
      clear hmy
      go_enter Tryd.func8, Tryd.ntmps8
      go_wp2_with fail
      go_at_call 23
      obtain ⟨w1, hw1⟩ : ∃ W, w.alloc (.cells #[.int .i64 pd2, .int .i64 pv2, .int .u64 pn2, .slice pa2 pb2.length pc2] 43) = W := ⟨_, rfl⟩
      have HP : Hid (Blk w1 w.heap.size 43 #[.int .i64 pd2, .int .i64 pv2, .int .u64 pn2, .slice pa2 pb2.length pc2]) := Lib.hid (by rw [← hw1]; exact Blk.new w _ _)
      have HC : Hid (Chg w w1 nob) := Lib.hid (by rw [← hw1]; exact (Chg.refl w nob).alloc _)
      rw [hw1]
      clear hw1
      refine (first25_any w1 (HT.out.kept HC.out id)).mono ?_
      rintro e u1 ⟨rfl, hck⟩
      replace HC : Hid (Chg w u1 nob) := Lib.hid (HC.out.trans hck (fun _ _ h => h))
      replace HP := Lib.hid (HP.out.kept hck id)
      clear hck
      have q0 := HP.out.cell 0
      have q1 := HP.out.cell 1
      have q2 := HP.out.cell 2
      have q3 := HP.out.cell 3
      simp only [List.getElem?_toArray, List.getElem?_cons_zero, List.getElem?_cons_succ] at q0 q1 q2 q3
      go_wp2_with fail
      all_goals first
        | (go_at_call 34
           refine (may_any u1 ⟨pd2, pv2, pn2, pb2⟩ _ (KP.out.kept HC.out)).mono ?_
           rw [HMD.out]
           rintro e u2 ⟨rfl, hck⟩
           clear q0 q1 q2 q3
           replace HC : Hid (Chg w u2 nob) := Lib.hid (HC.out.trans hck (fun _ _ h => h))
           replace HP := Lib.hid (HP.out.kept hck id)
           clear hck
           go_wp2_with fail
           all_goals first
             | (exfalso; exact hin2.out ⟨by omega, by omega, HMY.out, by omega⟩)
             | (
                go_at_call 23
                refine (first25_any u2 (HT.out.kept HC.out id)).mono ?_
                rintro e x ⟨rfl, hx⟩
                have HX := Lib.hid hx
                clear hx
                go_wp2
                go_ret
                exact ⟨rfl, HC.out.trans HX.out (fun _ _ h => h)⟩
                ))
        | (
           go_at_call 23
           refine (first25_any u1 (HT.out.kept HC.out id)).mono ?_
           rintro e x ⟨rfl, hx⟩
           have HX := Lib.hid hx
           clear hx
           go_wp2
           go_ret
           exact ⟨rfl, HC.out.trans HX.out (fun _ _ h => h)⟩
           )
    · have HMD := Lib.hid (decide_eq_false hmy)
      clear hmy
      go_enter Tryd.func8, Tryd.ntmps8
      go_wp2_with fail
      go_at_call 23
      obtain ⟨w1, hw1⟩ : ∃ W, w.alloc (.cells #[.int .i64 pd2, .int .i64 pv2, .int .u64 pn2, .slice pa2 pb2.length pc2] 43) = W := ⟨_, rfl⟩
      have HP : Hid (Blk w1 w.heap.size 43 #[.int .i64 pd2, .int .i64 pv2, .int .u64 pn2, .slice pa2 pb2.length pc2]) := Lib.hid (by rw [← hw1]; exact Blk.new w _ _)
      have HC : Hid (Chg w w1 nob) := Lib.hid (by rw [← hw1]; exact (Chg.refl w nob).alloc _)
      rw [hw1]
      clear hw1
      refine (first25_any w1 (HT.out.kept HC.out id)).mono ?_
      rintro e u1 ⟨rfl, hck⟩
      replace HC : Hid (Chg w u1 nob) := Lib.hid (HC.out.trans hck (fun _ _ h => h))
      replace HP := Lib.hid (HP.out.kept hck id)
      clear hck
      have q0 := HP.out.cell 0
      have q1 := HP.out.cell 1
      have q2 := HP.out.cell 2
      have q3 := HP.out.cell 3
      simp only [List.getElem?_toArray, List.getElem?_cons_zero, List.getElem?_cons_succ] at q0 q1 q2 q3
      go_wp2_with fail
      all_goals first
        | (go_at_call 34
           refine (may_any u1 ⟨pd2, pv2, pn2, pb2⟩ _ (KP.out.kept HC.out)).mono ?_
           rw [HMD.out]
           rintro e u2 ⟨rfl, hck⟩
           clear q0 q1 q2 q3
           replace HC : Hid (Chg w u2 nob) := Lib.hid (HC.out.trans hck (fun _ _ h => h))
           replace HP := Lib.hid (HP.out.kept hck id)
           clear hck
           go_wp2_with fail
           go_at_call 23
           refine (first25_any u2 (HT.out.kept HC.out id)).mono ?_
           rintro e x ⟨rfl, hx⟩
           have HX := Lib.hid hx
           clear hx
           go_wp2
           go_ret
           exact ⟨rfl, HC.out.trans HX.out (fun _ _ h => h)⟩
           )
        | (
           go_at_call 23
           refine (first25_any u1 (HT.out.kept HC.out id)).mono ?_
           rintro e x ⟨rfl, hx⟩
           have HX := Lib.hid hx
           clear hx
           go_wp2
           go_ret
           exact ⟨rfl, HC.out.trans HX.out (fun _ _ h => h)⟩
           )
end Go.Proofs.YtajcefdbljbmdaaDoor
