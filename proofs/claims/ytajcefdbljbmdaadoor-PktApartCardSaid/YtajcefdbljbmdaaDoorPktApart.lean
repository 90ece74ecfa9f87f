/-
  PktApart: two packets of one key are one datagram just if they are the same.
-/
import Derived.Test.YtajcefdbljbmdaaDoorPk6
namespace Go.Proofs.YtajcefdbljbmdaaDoor
open Go.RowKit
set_option linter.unusedVariables false
set_option linter.unusedSimpArgs false

theorem sealL_inj (k : List Int) {p q : Pk} (hp : p.May) (hq : q.May) : decide (sealL k p = sealL k q) = decide (p = q) := by
  rw [Bool.eq_iff_iff]
  simp only [decide_eq_true_eq]
  refine ⟨fun h => ?_, fun h => by rw [h]⟩
  have h1 := open_seal k p hp
  rw [h, open_seal k q hq] at h1
  exact (congrArg Prod.fst h1).symm
theorem sealR_byte (K : List Int) (p : Pk) (hb : ∀ x ∈ p.b, 0 ≤ x ∧ x ≤ 255) : ∀ x ∈ sealR K p, 0 ≤ x ∧ x ≤ 255 := by
  unfold sealR
  split
  · exact sealL_byte K p hb
  · intro x hx; cases hx
theorem short_open {k S : List Int} (h1 : S.length < 43) (h2 : 26 ≤ S.length) : (openL k (S.take (S.length - 17))).2 = 3 := by
  unfold openL
  rw [if_pos (by simp; omega)]
theorem long_open {k S : List Int} (h1 : 43 ≤ S.length) : (openL k (S.take (S.length - 17))).2 = 15 ∨ (tagL k (S.take (S.length - 33)) = (S.take (S.length - 17)).drop (S.length - 33) ∧ (openL k (S.take (S.length - 17))).2 ≠ 3 ∧ (openL k (S.take (S.length - 17))).2 ≠ 15) := by
  have hl : (S.take (S.length - 17)).length = S.length - 17 := by simp
  have hE : (S.take (S.length - 17)).length - 16 = S.length - 33 := by omega
  have ht : (S.take (S.length - 17)).take (S.length - 33) = S.take (S.length - 33) := by rw [List.take_take]; congr 1; omega
  unfold openL
  rw [if_neg (by omega), hE, ht]
  by_cases h : tagL k (S.take (S.length - 33)) = (S.take (S.length - 17)).drop (S.length - 33)
  · right
    rw [if_pos h]
    refine ⟨h, ?_, ?_⟩ <;> split <;> (intro h; simp at h)
  · left
    rw [if_neg h]
def inApart (a b c : Nat) : Prop := a ≤ 1000 ∧ b ≤ 3000 ∧ c ≤ 3000
attribute [local go_sem ↓] run_cut_h run_cut_l bcut_lh
set_option maxRecDepth 100000 in
set_option maxHeartbeats 1500000 in
theorem PktApart_walk (a0 : Option Addr) (len0 cap0 : Nat) (pd1 pv1 pn1 : Int) (pa1 : Option Addr) (pc1 : Nat) (pb1 : List Int) (pd2 pv2 pn2 : Int) (pa2 : Option Addr) (pc2 : Nat) (pb2 : List Int) (w : World) (l0 : List Int)
    (hr0 : Rd w 1 (.slice a0 len0 cap0) len0 (l0.map (Value.int .u8))) (hl0 : l0.length = len0) (y0 : len0 * 1 ≤ 140737488351232) (w0 : ∀ x ∈ l0, 0 ≤ x ∧ x ≤ 255) (nk0 : NilOk (.slice a0 len0 cap0))
    (h1 : By w (.slice pa1 pb1.length pc1) pb1) (h2 : By w (.slice pa2 pb2.length pc2) pb2) (w1 : Pk.Ok ⟨pd1, pv1, pn1, pb1⟩) (w2 : Pk.Ok ⟨pd2, pv2, pn2, pb2⟩) (ht : Tab w) :
    Calls Tryd.prog 9 #[.slice a0 len0 cap0, pkV ⟨pd1, pv1, pn1, pb1⟩ (.slice pa1 pb1.length pc1), pkV ⟨pd2, pv2, pn2, pb2⟩ (.slice pa2 pb2.length pc2)] w fun e w' => e = .returned (.bool true) ∧ Chg w w' nob := by
  subst hl0
  have K0 : Hid (By w (.slice a0 l0.length cap0) l0) := Lib.hid ⟨hr0, nk0, w0⟩
  have KP := Lib.hid h1
  have KQ := Lib.hid h2
  have WP := Lib.hid w1
  have WQ := Lib.hid w2
  have HT := Lib.hid ht
  have i0 : (0 : Int) ≤ (l0.length : Int) := by omega
  have i1 : (0 : Int) ≤ (pb1.length : Int) := by omega
  have i2 : (0 : Int) ≤ (pb2.length : Int) := by omega
  clear hr0 nk0 w0 h1 h2 w1 w2 ht
  simp only [pkV]
  by_cases hin : inApart l0.length pb1.length pb2.length
  · obtain ⟨h1, h2, h3⟩ := hin
    have j0 : (l0.length : Int) ≤ 1000 := by omega
    have j1 : (pb1.length : Int) ≤ 3000 := by omega
    have j2 : (pb2.length : Int) ≤ 3000 := by omega
    by_cases hmp : Pk.May ⟨pd1, pv1, pn1, pb1⟩
    · have HMP := Lib.hid hmp
      have hbl : pb1.length ≤ 1200 := hmp.2.2.2.2.2
      have e1 : Hid (sealE ⟨pd1, pv1, pn1, pb1⟩ = 0) := Lib.hid (if_pos hmp)
      have R1e : Hid (sealR l0 ⟨pd1, pv1, pn1, pb1⟩ = sealL l0 ⟨pd1, pv1, pn1, pb1⟩) := Lib.hid (if_pos hmp)
      have HMD := Lib.hid (decide_eq_true hmp)
      clear hmp
      by_cases hmq : Pk.May ⟨pd2, pv2, pn2, pb2⟩
      · have HMQ := Lib.hid hmq
        have e2 : Hid (sealE ⟨pd2, pv2, pn2, pb2⟩ = 0) := Lib.hid (if_pos hmq)
        have r2' : Hid (sealR l0 ⟨pd2, pv2, pn2, pb2⟩ = sealL l0 ⟨pd2, pv2, pn2, pb2⟩) := Lib.hid (if_pos hmq)
        have HJ := Lib.hid (sealL_inj l0 HMP.out HMQ.out)
        clear hmq
        go_enter Tryd.func9, Tryd.ntmps9
        go_wp2_with fail
        go_at_call 23
        obtain ⟨w1, hw1⟩ : ∃ W, w.alloc (.cells #[.int .i64 pd1, .int .i64 pv1, .int .u64 pn1, .slice pa1 pb1.length pc1] 43) = W := ⟨_, rfl⟩
        have hp1 : Blk w1 w.heap.size 43 #[.int .i64 pd1, .int .i64 pv1, .int .u64 pn1, .slice pa1 pb1.length pc1] := by rw [← hw1]; exact Blk.new w _ _
        have hc1 : Chg w w1 nob := by rw [← hw1]; exact (Chg.refl w nob).alloc _
        have hs1 : w1.heap.size = w.heap.size + 1 := by rw [← hw1, size_al]
        rw [hw1, ← hs1]
        obtain ⟨w2, hw2⟩ : ∃ W, w1.alloc (.cells #[.int .i64 pd2, .int .i64 pv2, .int .u64 pn2, .slice pa2 pb2.length pc2] 43) = W := ⟨_, rfl⟩
        have HQ : Hid (Blk w2 w1.heap.size 43 #[.int .i64 pd2, .int .i64 pv2, .int .u64 pn2, .slice pa2 pb2.length pc2]) := Lib.hid (by rw [← hw2]; exact Blk.new w1 _ _)
        have hc2 : Chg w1 w2 nob := by rw [← hw2]; exact (Chg.refl w1 nob).alloc _
        rw [hw2]
        have HP := Lib.hid (hp1.kept hc2 id)
        have HC : Hid (Chg w w2 nob) := Lib.hid (hc1.trans hc2 (fun _ _ h => h))
        clear hw1 hw2 hp1 hc1 hc2 hs1
        refine (first25_any w2 (HT.out.kept HC.out id)).mono ?_
        rintro e u1 ⟨rfl, hck⟩
        replace HC : Hid (Chg w u1 nob) := Lib.hid (HC.out.trans hck (fun _ _ h => h))
        replace HP := Lib.hid (HP.out.kept hck id)
        replace HQ := Lib.hid (HQ.out.kept hck id)
        clear hck
        have q0 := HP.out.cell 0
        have q1 := HP.out.cell 1
        have q2 := HP.out.cell 2
        have q3 := HP.out.cell 3
        have r0 := HQ.out.cell 0
        have r1 := HQ.out.cell 1
        have r2 := HQ.out.cell 2
        have r3 := HQ.out.cell 3
        simp only [List.getElem?_toArray, List.getElem?_cons_zero, List.getElem?_cons_succ] at q0 q1 q2 q3 r0 r1 r2 r3
        go_wp2_with fail
        go_at_call 28
        have hs := seal_any u1 ⟨pd1, pv1, pn1, pb1⟩ l0 _ _ (HT.out.kept HC.out id) (K0.out.kept HC.out) (KP.out.kept HC.out) WP.out (by omega) (by (show pb1.length ≤ 100000); omega)
        rw [e1.out, R1e.out] at hs
        refine hs.mono ?_
        clear hs
        rintro e u2 ⟨x, rfl, hb⟩
        have hck := hb.2.1
        clear q0 q1 q2 q3 r0 r1 r2 r3
        replace HC : Hid (Chg w u2 nob) := Lib.hid (HC.out.trans hck (fun _ _ h => h))
        replace HP := Lib.hid (HP.out.kept hck id)
        replace HQ := Lib.hid (HQ.out.kept hck id)
        have HSB : Hid (∀ x ∈ sealL l0 ⟨pd1, pv1, pn1, pb1⟩, 0 ≤ x ∧ x ≤ 255) := Lib.hid (sealL_byte _ _ KP.out.byte)
        have hsl := sealL_len l0 ⟨pd1, pv1, pn1, pb1⟩
        simp only at hsl
        obtain ⟨S, hS⟩ : ∃ S, sealL l0 ⟨pd1, pv1, pn1, pb1⟩ = S := ⟨_, rfl⟩
        rw [hS] at hb HSB hsl HJ
        have HX := Lib.hid (By.ofBx hb HSB.out)
        obtain ⟨ax, cx, rfl, hcx⟩ := hb.1.form
        obtain ⟨m, hm⟩ : ∃ m, S.length = m := ⟨_, rfl⟩
        have HM := Lib.hid hm
        have hm26 : 26 ≤ m := by omega
        have hm2 : m ≤ 1226 := by omega
        obtain ⟨E, hE⟩ : ∃ E, m = E + 17 := ⟨m - 17, by omega⟩
        have hEi : (m : Int) - 17 = (E : Int) := by omega
        have e0 : (0 : Int) ≤ (E : Int) := by omega
        have eE : (E : Int) ≤ (m : Int) := by omega
        have hcx' : (E : Int) ≤ (cx : Int) := by omega
        have hEm : E ≤ m := by omega
        have HE17 : Hid (m - 17 = E) := Lib.hid (by omega)
        have m26 : ¬ m < 26 := by omega
        have m26' : decide (m < 26) = false := by simp; omega
        have m26i : (26 : Int) ≤ (m : Int) := by omega
        replace HX : Hid (By u2 (.slice ax m cx) S) := Lib.hid (by have h := HX.out; rw [hm] at h; exact h)
        have hmcx : m ≤ cx := by omega
        rw [hm]
        clear hE hm hsl hcx hck hb hS
        have q0 := HP.out.cell 0
        have q1 := HP.out.cell 1
        have q2 := HP.out.cell 2
        have q3 := HP.out.cell 3
        have r0 := HQ.out.cell 0
        have r1 := HQ.out.cell 1
        have r2 := HQ.out.cell 2
        have r3 := HQ.out.cell 3
        simp only [List.getElem?_toArray, List.getElem?_cons_zero, List.getElem?_cons_succ] at q0 q1 q2 q3 r0 r1 r2 r3
        go_wp2_with fail
        go_at_call 28
        have hs := seal_any u2 ⟨pd2, pv2, pn2, pb2⟩ l0 _ _ (HT.out.kept HC.out id) (K0.out.kept HC.out) (KQ.out.kept HC.out) WQ.out (by omega) (by (show pb2.length ≤ 100000); omega)
        rw [e2.out, r2'.out] at hs
        refine hs.mono ?_
        clear hs
        rintro e u3 ⟨y, rfl, hb⟩
        have hck := hb.2.1
        clear q0 q1 q2 q3 r0 r1 r2 r3
        replace HC : Hid (Chg w u3 nob) := Lib.hid (HC.out.trans hck (fun _ _ h => h))
        replace HP := Lib.hid (HP.out.kept hck id)
        replace HQ := Lib.hid (HQ.out.kept hck id)
        replace HX := Lib.hid (HX.out.kept hck)
        have HSB2 : Hid (∀ x ∈ sealL l0 ⟨pd2, pv2, pn2, pb2⟩, 0 ≤ x ∧ x ≤ 255) := Lib.hid (sealL_byte _ _ KQ.out.byte)
        obtain ⟨S2, hS2⟩ : ∃ S, sealL l0 ⟨pd2, pv2, pn2, pb2⟩ = S := ⟨_, rfl⟩
        rw [hS2] at hb HSB2 HJ
        have HY := Lib.hid (By.ofBx hb HSB2.out)
        obtain ⟨ay, cy, rfl, _⟩ := hb.1.form
        clear hck hb hS2
        have q0 := HP.out.cell 0
        have q1 := HP.out.cell 1
        have q2 := HP.out.cell 2
        have q3 := HP.out.cell 3
        have r0 := HQ.out.cell 0
        have r1 := HQ.out.cell 1
        have r2 := HQ.out.cell 2
        have r3 := HQ.out.cell 3
        simp only [List.getElem?_toArray, List.getElem?_cons_zero, List.getElem?_cons_succ] at q0 q1 q2 q3 r0 r1 r2 r3
        obtain ⟨bb, hbb⟩ : ∃ b, decide ((⟨pd1, pv1, pn1, pb1⟩ : Pk) = ⟨pd2, pv2, pn2, pb2⟩) = b := ⟨_, rfl⟩
        have HBB := Lib.hid hbb
        rw [hbb] at HJ
        have hbeq : (bb == bb) = true := by cases bb <;> rfl
        clear hbb
        go_wp2_with fail
        go_at_call 34
        refine (may_any u3 ⟨pd1, pv1, pn1, pb1⟩ _ (KP.out.kept HC.out)).mono ?_
        rw [HMD.out]
        rintro e u4 ⟨rfl, hck⟩
        clear q0 q1 q2 q3 r0 r1 r2 r3
        replace HC : Hid (Chg w u4 nob) := Lib.hid (HC.out.trans hck (fun _ _ h => h))
        replace HP := Lib.hid (HP.out.kept hck id)
        replace HQ := Lib.hid (HQ.out.kept hck id)
        replace HX := Lib.hid (HX.out.kept hck)
        replace HY := Lib.hid (HY.out.kept hck)
        clear hck
        have htk : By u4 (.slice (addS ax cx 0) E cx) (S.take E) := by
          have h := HX.out
          rw [← HM.out] at h
          exact h.take (by rw [HM.out]; exact hEm)
        have htl : (S.take E).length = E := by rw [List.length_take, HM.out]; omega
        have ho1 := open_any u4 l0 (S.take E) _ _ (HT.out.kept HC.out id) (K0.out.kept HC.out) htk (by omega) (by rw [htl]; omega)
        clear htl htk
        have HSH : Hid (m < 43 → (openL l0 (S.take E)).2 = 3) := Lib.hid (fun h => by have h1 := short_open (k := l0) (S := S) (by rw [HM.out]; exact h) (by rw [HM.out]; exact hm26); rw [HM.out, HE17.out] at h1; exact h1)
        have HLO : Hid (43 ≤ m → (openL l0 (S.take E)).2 = 15 ∨ (tagL l0 (S.take (m - 33)) = (S.take E).drop (m - 33) ∧ (openL l0 (S.take E)).2 ≠ 3 ∧ (openL l0 (S.take E)).2 ≠ 15)) := Lib.hid (fun h => by have h1 := long_open (k := l0) (S := S) (by rw [HM.out]; exact h); rw [HM.out, HE17.out] at h1; exact h1)
        obtain ⟨R1, hR1⟩ : ∃ R, openL l0 (S.take E) = R := ⟨_, rfl⟩
        rw [hR1] at ho1 HSH HLO
        obtain ⟨⟨rd, rv, rn, rb⟩, rc⟩ := R1
        simp only at ho1 HSH HLO
        clear hR1
        go_wp2_with fail
        go_at_call 31
        refine ho1.mono ?_
        clear ho1
        rintro e u5 ⟨z, rfl, hb⟩
        have hck := hb.2.1
        obtain ⟨az, cz, rfl, _⟩ := hb.1.form
        replace HC : Hid (Chg w u5 nob) := Lib.hid (HC.out.trans hck (fun _ _ h => h))
        replace HP := Lib.hid (HP.out.kept hck id)
        replace HQ := Lib.hid (HQ.out.kept hck id)
        replace HX := Lib.hid (HX.out.kept hck)
        replace HY := Lib.hid (HY.out.kept hck)
        clear hb hck
        simp only [pkV]
        go_wp2_with fail
        obtain ⟨u6, hu6⟩ : ∃ W, u5.alloc (.cells #[.int .i64 rd, .int .i64 rv, .int .u64 rn, .slice az rb.length cz] 43) = W := ⟨_, rfl⟩
        have hck : Chg u5 u6 nob := by rw [← hu6]; exact (Chg.refl u5 nob).alloc _
        rw [hu6]
        replace HC : Hid (Chg w u6 nob) := Lib.hid (HC.out.trans hck (fun _ _ h => h))
        replace HP := Lib.hid (HP.out.kept hck id)
        replace HQ := Lib.hid (HQ.out.kept hck id)
        replace HX := Lib.hid (HX.out.kept hck)
        replace HY := Lib.hid (HY.out.kept hck)
        clear hck hu6
        refine wp_one [5, 6] [0, 4, 7, 28, 37] [(4, [5, 6])] [0, 1, 2, 3, 5, 6, 4, 7, 8, 9, 10, 11, 12, 13, 14, 15, 16, 17, 18, 19, 20, 21, 22, 23, 24, 25, 26, 27, 29, 30, 31, 32, 33, 34, 35, 36, 28, 37, 38, 39, 40, 41, 42, 43, 44, 45, 46] rfl (by kernel_rfl) (fun _ _ _ _ _ h => h) ?_; simp only [List.map_cons, List.map_nil, List.getElem?_toArray, List.getElem?_cons_zero, List.getElem?_cons_succ]
        obtain ⟨ud, hud⟩ : ∃ W, World.drew u6 = W := ⟨_, rfl⟩
        have hck : Chg u6 ud nob := by rw [← hud]; exact (Chg.refl u6 nob).drew
        rw [hud]
        replace HC : Hid (Chg w ud nob) := Lib.hid (HC.out.trans hck (fun _ _ h => h))
        replace HP := Lib.hid (HP.out.kept hck id)
        replace HQ := Lib.hid (HQ.out.kept hck id)
        replace HX := Lib.hid (HX.out.kept hck)
        replace HY := Lib.hid (HY.out.kept hck)
        clear hck hud
        (repeat (first | (apply can0; (· rfl); (· rfl); (· (intro w'; first | (go_simp; with_reducible rfl) | (go_simp; done))); simp only [Act.put, List.setIfInBounds_toArray, List.set_cons_zero, List.set_cons_succ]) | (apply can1; (· rfl); (· rfl); (· (first | (go_simp; with_reducible rfl) | (go_simp; done))); simp only [Act.put, List.setIfInBounds_toArray, List.set_cons_zero, List.set_cons_succ]) | (apply canN; (· rfl); (· rfl); simp only [Act.put, List.setIfInBounds_toArray, List.set_cons_zero, List.set_cons_succ]) | (apply canN1; (· rfl); (· rfl); simp only [Act.put, List.setIfInBounds_toArray, List.set_cons_zero, List.set_cons_succ]) | (apply can0; (· rfl); (· (go_simp; done)); (· (intro w'; first | (go_simp; with_reducible rfl) | (go_simp; done))); simp only [Act.put, List.setIfInBounds_toArray, List.set_cons_zero, List.set_cons_succ]) | (apply can1; (· rfl); (· (go_simp; done)); (· (first | (go_simp; with_reducible rfl) | (go_simp; done))); simp only [Act.put, List.setIfInBounds_toArray, List.set_cons_zero, List.set_cons_succ]) | (apply canN; (· rfl); (· (go_simp; done)); simp only [Act.put, List.setIfInBounds_toArray, List.set_cons_zero, List.set_cons_succ]) | (apply canN1; (· rfl); (· (go_simp; done)); simp only [Act.put, List.setIfInBounds_toArray, List.set_cons_zero, List.set_cons_succ])))
        refine canW rfl [] rfl (fun K hK => ?_)
        go_simp
        go_at_call 23
        refine (first25_any ud (HT.out.kept HC.out id)).mono ?_
        rintro e v1 ⟨rfl, hck⟩
        replace HC : Hid (Chg w v1 nob) := Lib.hid (HC.out.trans hck (fun _ _ h => h))
        replace HP := Lib.hid (HP.out.kept hck id)
        replace HQ := Lib.hid (HQ.out.kept hck id)
        replace HX := Lib.hid (HX.out.kept hck)
        replace HY := Lib.hid (HY.out.kept hck)
        clear hck
        (refine hK _ _ (fun u hu => by cases hu) ?_; clear hK K; try simp only [Act.put, List.setIfInBounds_toArray, List.set_cons_zero, List.set_cons_succ])
        have q0 := HP.out.cell 0
        have q1 := HP.out.cell 1
        have q2 := HP.out.cell 2
        have q3 := HP.out.cell 3
        have r0 := HQ.out.cell 0
        have r1 := HQ.out.cell 1
        have r2 := HQ.out.cell 2
        have r3 := HQ.out.cell 3
        simp only [List.getElem?_toArray, List.getElem?_cons_zero, List.getElem?_cons_succ] at q0 q1 q2 q3 r0 r1 r2 r3
        (repeat (first | (apply can0; (· rfl); (· rfl); (· (intro w'; first | (go_simp; with_reducible rfl) | (go_simp; done))); simp only [Act.put, List.setIfInBounds_toArray, List.set_cons_zero, List.set_cons_succ]) | (apply can1; (· rfl); (· rfl); (· (first | (go_simp; with_reducible rfl) | (go_simp; done))); simp only [Act.put, List.setIfInBounds_toArray, List.set_cons_zero, List.set_cons_succ]) | (apply canN; (· rfl); (· rfl); simp only [Act.put, List.setIfInBounds_toArray, List.set_cons_zero, List.set_cons_succ]) | (apply canN1; (· rfl); (· rfl); simp only [Act.put, List.setIfInBounds_toArray, List.set_cons_zero, List.set_cons_succ]) | (apply can0; (· rfl); (· (go_simp; done)); (· (intro w'; first | (go_simp; with_reducible rfl) | (go_simp; done))); simp only [Act.put, List.setIfInBounds_toArray, List.set_cons_zero, List.set_cons_succ]) | (apply can1; (· rfl); (· (go_simp; done)); (· (first | (go_simp; with_reducible rfl) | (go_simp; done))); simp only [Act.put, List.setIfInBounds_toArray, List.set_cons_zero, List.set_cons_succ]) | (apply canN; (· rfl); (· (go_simp; done)); simp only [Act.put, List.setIfInBounds_toArray, List.set_cons_zero, List.set_cons_succ]) | (apply canN1; (· rfl); (· (go_simp; done)); simp only [Act.put, List.setIfInBounds_toArray, List.set_cons_zero, List.set_cons_succ])))
        refine canW rfl [5, 6] rfl (fun K hK => ?_)
        go_simp
        go_at_call 18
        refine (bytes_by HX.out HY.out).mono ?_
        rw [HJ.out]
        rintro e yy ⟨rfl, rfl⟩
        (refine hK _ _ (fun u hu => by (simp only [List.mem_cons, List.not_mem_nil, or_false] at hu); (first | (subst hu; exact reRun_mk rfl (by first | (go_simp; with_reducible rfl) | (go_simp; done)) (holds_at rfl)) | ((repeat' (first | (rcases hu with rfl | hu) | (subst hu))) <;> exact reRun_mk rfl (by first | (go_simp; with_reducible rfl) | (go_simp; done)) (holds_at rfl)))) ?_; clear hK K; try simp only [Act.put, List.setIfInBounds_toArray, List.set_cons_zero, List.set_cons_succ])
        (repeat (first | (apply can0; (· rfl); (· rfl); (· (intro w'; first | (go_simp; with_reducible rfl) | (go_simp; done))); simp only [Act.put, List.setIfInBounds_toArray, List.set_cons_zero, List.set_cons_succ]) | (apply can1; (· rfl); (· rfl); (· (first | (go_simp; with_reducible rfl) | (go_simp; done))); simp only [Act.put, List.setIfInBounds_toArray, List.set_cons_zero, List.set_cons_succ]) | (apply canN; (· rfl); (· rfl); simp only [Act.put, List.setIfInBounds_toArray, List.set_cons_zero, List.set_cons_succ]) | (apply canN1; (· rfl); (· rfl); simp only [Act.put, List.setIfInBounds_toArray, List.set_cons_zero, List.set_cons_succ]) | (apply can0; (· rfl); (· (go_simp; done)); (· (intro w'; first | (go_simp; with_reducible rfl) | (go_simp; done))); simp only [Act.put, List.setIfInBounds_toArray, List.set_cons_zero, List.set_cons_succ]) | (apply can1; (· rfl); (· (go_simp; done)); (· (first | (go_simp; with_reducible rfl) | (go_simp; done))); simp only [Act.put, List.setIfInBounds_toArray, List.set_cons_zero, List.set_cons_succ]) | (apply canN; (· rfl); (· (go_simp; done)); simp only [Act.put, List.setIfInBounds_toArray, List.set_cons_zero, List.set_cons_succ]) | (apply canN1; (· rfl); (· (go_simp; done)); simp only [Act.put, List.setIfInBounds_toArray, List.set_cons_zero, List.set_cons_succ])))
        refine canW rfl [] rfl (fun K hK => ?_)
        go_simp
        go_at_call 36
        refine (same_any v1 ⟨pd1, pv1, pn1, pb1⟩ ⟨pd2, pv2, pn2, pb2⟩ _ _ (KP.out.kept HC.out) (KQ.out.kept HC.out)).mono ?_
        rw [HBB.out]
        rintro e v2 ⟨rfl, hck⟩
        clear q0 q1 q2 q3 r0 r1 r2 r3
        replace HC : Hid (Chg w v2 nob) := Lib.hid (HC.out.trans hck (fun _ _ h => h))
        replace HP := Lib.hid (HP.out.kept hck id)
        replace HQ := Lib.hid (HQ.out.kept hck id)
        replace HX := Lib.hid (HX.out.kept hck)
        clear hck HY
        (refine hK _ _ (fun u hu => by cases hu) ?_; clear hK K; try simp only [Act.put, List.setIfInBounds_toArray, List.set_cons_zero, List.set_cons_succ])
        rcases Nat.lt_or_ge m 43 with hm43 | hm43
        · obtain rfl := HSH.out hm43
          (repeat (first | (apply can0; (· rfl); (· rfl); (· (intro w'; first | (go_simp; with_reducible rfl) | (go_simp; done))); simp only [Act.put, List.setIfInBounds_toArray, List.set_cons_zero, List.set_cons_succ]) | (apply can1; (· rfl); (· rfl); (· (first | (go_simp; with_reducible rfl) | (go_simp; done))); simp only [Act.put, List.setIfInBounds_toArray, List.set_cons_zero, List.set_cons_succ]) | (apply canN; (· rfl); (· rfl); simp only [Act.put, List.setIfInBounds_toArray, List.set_cons_zero, List.set_cons_succ]) | (apply canN1; (· rfl); (· rfl); simp only [Act.put, List.setIfInBounds_toArray, List.set_cons_zero, List.set_cons_succ]) | (apply can0; (· rfl); (· (go_simp; done)); (· (intro w'; first | (go_simp; with_reducible rfl) | (go_simp; done))); simp only [Act.put, List.setIfInBounds_toArray, List.set_cons_zero, List.set_cons_succ]) | (apply can1; (· rfl); (· (go_simp; done)); (· (first | (go_simp; with_reducible rfl) | (go_simp; done))); simp only [Act.put, List.setIfInBounds_toArray, List.set_cons_zero, List.set_cons_succ]) | (apply canN; (· rfl); (· (go_simp; done)); simp only [Act.put, List.setIfInBounds_toArray, List.set_cons_zero, List.set_cons_succ]) | (apply canN1; (· rfl); (· (go_simp; done)); simp only [Act.put, List.setIfInBounds_toArray, List.set_cons_zero, List.set_cons_succ])))
          refine canM rfl [] rfl rfl (fun u hu => by cases hu) ?_
          (repeat (first | (apply can0; (· rfl); (· rfl); (· (intro w'; first | (go_simp; with_reducible rfl) | (go_simp; done))); simp only [Act.put, List.setIfInBounds_toArray, List.set_cons_zero, List.set_cons_succ]) | (apply can1; (· rfl); (· rfl); (· (first | (go_simp; with_reducible rfl) | (go_simp; done))); simp only [Act.put, List.setIfInBounds_toArray, List.set_cons_zero, List.set_cons_succ]) | (apply canN; (· rfl); (· rfl); simp only [Act.put, List.setIfInBounds_toArray, List.set_cons_zero, List.set_cons_succ]) | (apply canN1; (· rfl); (· rfl); simp only [Act.put, List.setIfInBounds_toArray, List.set_cons_zero, List.set_cons_succ]) | (apply can0; (· rfl); (· (go_simp; done)); (· (intro w'; first | (go_simp; with_reducible rfl) | (go_simp; done))); simp only [Act.put, List.setIfInBounds_toArray, List.set_cons_zero, List.set_cons_succ]) | (apply can1; (· rfl); (· (go_simp; done)); (· (first | (go_simp; with_reducible rfl) | (go_simp; done))); simp only [Act.put, List.setIfInBounds_toArray, List.set_cons_zero, List.set_cons_succ]) | (apply canN; (· rfl); (· (go_simp; done)); simp only [Act.put, List.setIfInBounds_toArray, List.set_cons_zero, List.set_cons_succ]) | (apply canN1; (· rfl); (· (go_simp; done)); simp only [Act.put, List.setIfInBounds_toArray, List.set_cons_zero, List.set_cons_succ])))
          refine canM rfl [] rfl rfl (fun u hu => by cases hu) ?_
          (repeat (first | (apply can0; (· rfl); (· rfl); (· (intro w'; first | (go_simp; with_reducible rfl) | (go_simp; done))); simp only [Act.put, List.setIfInBounds_toArray, List.set_cons_zero, List.set_cons_succ]) | (apply can1; (· rfl); (· rfl); (· (first | (go_simp; with_reducible rfl) | (go_simp; done))); simp only [Act.put, List.setIfInBounds_toArray, List.set_cons_zero, List.set_cons_succ]) | (apply canN; (· rfl); (· rfl); simp only [Act.put, List.setIfInBounds_toArray, List.set_cons_zero, List.set_cons_succ]) | (apply canN1; (· rfl); (· rfl); simp only [Act.put, List.setIfInBounds_toArray, List.set_cons_zero, List.set_cons_succ]) | (apply can0; (· rfl); (· (go_simp; done)); (· (intro w'; first | (go_simp; with_reducible rfl) | (go_simp; done))); simp only [Act.put, List.setIfInBounds_toArray, List.set_cons_zero, List.set_cons_succ]) | (apply can1; (· rfl); (· (go_simp; done)); (· (first | (go_simp; with_reducible rfl) | (go_simp; done))); simp only [Act.put, List.setIfInBounds_toArray, List.set_cons_zero, List.set_cons_succ]) | (apply canN; (· rfl); (· (go_simp; done)); simp only [Act.put, List.setIfInBounds_toArray, List.set_cons_zero, List.set_cons_succ]) | (apply canN1; (· rfl); (· (go_simp; done)); simp only [Act.put, List.setIfInBounds_toArray, List.set_cons_zero, List.set_cons_succ])))
          refine canE ?_
          go_wp2
          go_ret
          exact ⟨rfl, HC.out⟩
        · rcases HLO.out hm43 with h15 | ⟨htg, hn3, hn15⟩
          · subst h15
            (repeat (first | (apply can0; (· rfl); (· rfl); (· (intro w'; first | (go_simp; with_reducible rfl) | (go_simp; done))); simp only [Act.put, List.setIfInBounds_toArray, List.set_cons_zero, List.set_cons_succ]) | (apply can1; (· rfl); (· rfl); (· (first | (go_simp; with_reducible rfl) | (go_simp; done))); simp only [Act.put, List.setIfInBounds_toArray, List.set_cons_zero, List.set_cons_succ]) | (apply canN; (· rfl); (· rfl); simp only [Act.put, List.setIfInBounds_toArray, List.set_cons_zero, List.set_cons_succ]) | (apply canN1; (· rfl); (· rfl); simp only [Act.put, List.setIfInBounds_toArray, List.set_cons_zero, List.set_cons_succ]) | (apply can0; (· rfl); (· (go_simp; done)); (· (intro w'; first | (go_simp; with_reducible rfl) | (go_simp; done))); simp only [Act.put, List.setIfInBounds_toArray, List.set_cons_zero, List.set_cons_succ]) | (apply can1; (· rfl); (· (go_simp; done)); (· (first | (go_simp; with_reducible rfl) | (go_simp; done))); simp only [Act.put, List.setIfInBounds_toArray, List.set_cons_zero, List.set_cons_succ]) | (apply canN; (· rfl); (· (go_simp; done)); simp only [Act.put, List.setIfInBounds_toArray, List.set_cons_zero, List.set_cons_succ]) | (apply canN1; (· rfl); (· (go_simp; done)); simp only [Act.put, List.setIfInBounds_toArray, List.set_cons_zero, List.set_cons_succ])))
            refine canM rfl [] rfl rfl (fun u hu => by cases hu) ?_
            (repeat (first | (apply can0; (· rfl); (· rfl); (· (intro w'; first | (go_simp; with_reducible rfl) | (go_simp; done))); simp only [Act.put, List.setIfInBounds_toArray, List.set_cons_zero, List.set_cons_succ]) | (apply can1; (· rfl); (· rfl); (· (first | (go_simp; with_reducible rfl) | (go_simp; done))); simp only [Act.put, List.setIfInBounds_toArray, List.set_cons_zero, List.set_cons_succ]) | (apply canN; (· rfl); (· rfl); simp only [Act.put, List.setIfInBounds_toArray, List.set_cons_zero, List.set_cons_succ]) | (apply canN1; (· rfl); (· rfl); simp only [Act.put, List.setIfInBounds_toArray, List.set_cons_zero, List.set_cons_succ]) | (apply can0; (· rfl); (· (go_simp; done)); (· (intro w'; first | (go_simp; with_reducible rfl) | (go_simp; done))); simp only [Act.put, List.setIfInBounds_toArray, List.set_cons_zero, List.set_cons_succ]) | (apply can1; (· rfl); (· (go_simp; done)); (· (first | (go_simp; with_reducible rfl) | (go_simp; done))); simp only [Act.put, List.setIfInBounds_toArray, List.set_cons_zero, List.set_cons_succ]) | (apply canN; (· rfl); (· (go_simp; done)); simp only [Act.put, List.setIfInBounds_toArray, List.set_cons_zero, List.set_cons_succ]) | (apply canN1; (· rfl); (· (go_simp; done)); simp only [Act.put, List.setIfInBounds_toArray, List.set_cons_zero, List.set_cons_succ])))
            refine canM rfl [] rfl rfl (fun u hu => by cases hu) ?_
            (repeat (first | (apply can0; (· rfl); (· rfl); (· (intro w'; first | (go_simp; with_reducible rfl) | (go_simp; done))); simp only [Act.put, List.setIfInBounds_toArray, List.set_cons_zero, List.set_cons_succ]) | (apply can1; (· rfl); (· rfl); (· (first | (go_simp; with_reducible rfl) | (go_simp; done))); simp only [Act.put, List.setIfInBounds_toArray, List.set_cons_zero, List.set_cons_succ]) | (apply canN; (· rfl); (· rfl); simp only [Act.put, List.setIfInBounds_toArray, List.set_cons_zero, List.set_cons_succ]) | (apply canN1; (· rfl); (· rfl); simp only [Act.put, List.setIfInBounds_toArray, List.set_cons_zero, List.set_cons_succ]) | (apply can0; (· rfl); (· (go_simp; done)); (· (intro w'; first | (go_simp; with_reducible rfl) | (go_simp; done))); simp only [Act.put, List.setIfInBounds_toArray, List.set_cons_zero, List.set_cons_succ]) | (apply can1; (· rfl); (· (go_simp; done)); (· (first | (go_simp; with_reducible rfl) | (go_simp; done))); simp only [Act.put, List.setIfInBounds_toArray, List.set_cons_zero, List.set_cons_succ]) | (apply canN; (· rfl); (· (go_simp; done)); simp only [Act.put, List.setIfInBounds_toArray, List.set_cons_zero, List.set_cons_succ]) | (apply canN1; (· rfl); (· (go_simp; done)); simp only [Act.put, List.setIfInBounds_toArray, List.set_cons_zero, List.set_cons_succ])))
            refine canE ?_
            go_wp2
            go_ret
            exact ⟨rfl, HC.out⟩
          · have hn3' : (rc == 3) = false := by simpa using hn3
            have hn15' : (rc == 15) = false := by simpa using hn15
            obtain ⟨F, hF⟩ : ∃ F, m - 33 = F := ⟨_, rfl⟩
            have hFi : (m : Int) - 33 = (F : Int) := by omega
            have f0 : (0 : Int) ≤ (F : Int) := by omega
            have f1 : (F : Int) ≤ (m : Int) := by omega
            have f2 : (F : Int) ≤ (cx : Int) := by omega
            have f3 : (F : Int) ≤ (E : Int) := by omega
            have f4 : F ≤ E := by omega
            have f5 : F ≤ m := by omega
            have f6 : F ≤ 1226 := by omega
            have ew : IntKind.i64.wrap (E : Int) = (E : Int) := by simp only [IntKind.wrap, IntKind.bits, IntKind.signed]; simp; omega
            have ele : (E : Int) ≤ 1226 := by omega
            have ecx : (E : Int) ≤ (cx : Int) := by omega
            have f7 : (F : Int) ≤ 1226 := by omega
            have fw : IntKind.i64.wrap (F : Int) = (F : Int) := by simp only [IntKind.wrap, IntKind.bits, IntKind.signed]; simp; omega
            have m43i : (43 : Int) ≤ (m : Int) := by omega
            rw [hF] at htg
            have HTG := Lib.hid htg
            clear htg hF hn3 hn15
            (repeat (first | (apply can0; (· rfl); (· rfl); (· (intro w'; first | (go_simp; with_reducible rfl) | (go_simp; done))); simp only [Act.put, List.setIfInBounds_toArray, List.set_cons_zero, List.set_cons_succ]) | (apply can1; (· rfl); (· rfl); (· (first | (go_simp; with_reducible rfl) | (go_simp; done))); simp only [Act.put, List.setIfInBounds_toArray, List.set_cons_zero, List.set_cons_succ]) | (apply canN; (· rfl); (· rfl); simp only [Act.put, List.setIfInBounds_toArray, List.set_cons_zero, List.set_cons_succ]) | (apply canN1; (· rfl); (· rfl); simp only [Act.put, List.setIfInBounds_toArray, List.set_cons_zero, List.set_cons_succ]) | (apply can0; (· rfl); (· (go_simp; done)); (· (intro w'; first | (go_simp; with_reducible rfl) | (go_simp; done))); simp only [Act.put, List.setIfInBounds_toArray, List.set_cons_zero, List.set_cons_succ]) | (apply can1; (· rfl); (· (go_simp; done)); (· (first | (go_simp; with_reducible rfl) | (go_simp; done))); simp only [Act.put, List.setIfInBounds_toArray, List.set_cons_zero, List.set_cons_succ]) | (apply canN; (· rfl); (· (go_simp; done)); simp only [Act.put, List.setIfInBounds_toArray, List.set_cons_zero, List.set_cons_succ]) | (apply canN1; (· rfl); (· (go_simp; done)); simp only [Act.put, List.setIfInBounds_toArray, List.set_cons_zero, List.set_cons_succ])))
            refine canW rfl [] rfl (fun K hK => ?_)
            go_simp
            go_at_call 22
            have hby : By v2 (.slice ax S.length cx) S := by rw [HM.out]; exact HX.out
            have htk : By v2 (.slice (addS ax cx 0) F cx) (S.take F) := hby.take (by rw [HM.out]; exact f5)
            have hdr : By v2 (.slice (addS ax cx F) (E - F) (cx - F)) ((S.take E).drop F) := hby.mid f4 (by rw [HM.out]; exact hEm)
            have HDR := Lib.hid hdr
            refine (rtag_by (K0.out.kept HC.out) htk (by omega) (by simp; omega)).mono ?_
            clear hby htk hdr
            rintro e v3 ⟨tv, rfl, hb, hck⟩
            have HTV := Lib.hid hb
            replace HDR := Lib.hid (HDR.out.kept hck)
            replace HC : Hid (Chg w v3 nob) := Lib.hid (HC.out.trans hck (fun _ _ h => h))
            replace HP := Lib.hid (HP.out.kept hck id)
            replace HQ := Lib.hid (HQ.out.kept hck id)
            clear hb hck
            (refine hK _ _ (fun u hu => by cases hu) ?_; clear hK K; try simp only [Act.put, List.setIfInBounds_toArray, List.set_cons_zero, List.set_cons_succ])
            (repeat (first | (apply can0; (· rfl); (· rfl); (· (intro w'; first | (go_simp; with_reducible rfl) | (go_simp; done))); simp only [Act.put, List.setIfInBounds_toArray, List.set_cons_zero, List.set_cons_succ]) | (apply can1; (· rfl); (· rfl); (· (first | (go_simp; with_reducible rfl) | (go_simp; done))); simp only [Act.put, List.setIfInBounds_toArray, List.set_cons_zero, List.set_cons_succ]) | (apply canN; (· rfl); (· rfl); simp only [Act.put, List.setIfInBounds_toArray, List.set_cons_zero, List.set_cons_succ]) | (apply canN1; (· rfl); (· rfl); simp only [Act.put, List.setIfInBounds_toArray, List.set_cons_zero, List.set_cons_succ]) | (apply can0; (· rfl); (· (go_simp; done)); (· (intro w'; first | (go_simp; with_reducible rfl) | (go_simp; done))); simp only [Act.put, List.setIfInBounds_toArray, List.set_cons_zero, List.set_cons_succ]) | (apply can1; (· rfl); (· (go_simp; done)); (· (first | (go_simp; with_reducible rfl) | (go_simp; done))); simp only [Act.put, List.setIfInBounds_toArray, List.set_cons_zero, List.set_cons_succ]) | (apply canN; (· rfl); (· (go_simp; done)); simp only [Act.put, List.setIfInBounds_toArray, List.set_cons_zero, List.set_cons_succ]) | (apply canN1; (· rfl); (· (go_simp; done)); simp only [Act.put, List.setIfInBounds_toArray, List.set_cons_zero, List.set_cons_succ])))
            refine canW rfl [] rfl (fun K hK => ?_)
            go_simp
            go_at_call 18
            refine (bytes_by HTV.out HDR.out).mono ?_
            rw [decide_eq_true HTG.out]
            rintro e yy ⟨rfl, rfl⟩
            (refine hK _ _ (fun u hu => by cases hu) ?_; clear hK K; try simp only [Act.put, List.setIfInBounds_toArray, List.set_cons_zero, List.set_cons_succ])
            (repeat (first | (apply can0; (· rfl); (· rfl); (· (intro w'; first | (go_simp; with_reducible rfl) | (go_simp; done))); simp only [Act.put, List.setIfInBounds_toArray, List.set_cons_zero, List.set_cons_succ]) | (apply can1; (· rfl); (· rfl); (· (first | (go_simp; with_reducible rfl) | (go_simp; done))); simp only [Act.put, List.setIfInBounds_toArray, List.set_cons_zero, List.set_cons_succ]) | (apply canN; (· rfl); (· rfl); simp only [Act.put, List.setIfInBounds_toArray, List.set_cons_zero, List.set_cons_succ]) | (apply canN1; (· rfl); (· rfl); simp only [Act.put, List.setIfInBounds_toArray, List.set_cons_zero, List.set_cons_succ]) | (apply can0; (· rfl); (· (go_simp; done)); (· (intro w'; first | (go_simp; with_reducible rfl) | (go_simp; done))); simp only [Act.put, List.setIfInBounds_toArray, List.set_cons_zero, List.set_cons_succ]) | (apply can1; (· rfl); (· (go_simp; done)); (· (first | (go_simp; with_reducible rfl) | (go_simp; done))); simp only [Act.put, List.setIfInBounds_toArray, List.set_cons_zero, List.set_cons_succ]) | (apply canN; (· rfl); (· (go_simp; done)); simp only [Act.put, List.setIfInBounds_toArray, List.set_cons_zero, List.set_cons_succ]) | (apply canN1; (· rfl); (· (go_simp; done)); simp only [Act.put, List.setIfInBounds_toArray, List.set_cons_zero, List.set_cons_succ])))
            refine canE ?_
            go_wp2
            go_ret
            exact ⟨rfl, HC.out⟩
      · have e2 : Hid (sealE ⟨pd2, pv2, pn2, pb2⟩ = 1) := Lib.hid (if_neg hmq)
        have r2' : Hid (sealR l0 ⟨pd2, pv2, pn2, pb2⟩ = []) := Lib.hid (if_neg hmq)
        clear hmq
        go_enter Tryd.func9, Tryd.ntmps9
        go_wp2_with fail
        go_at_call 23
        obtain ⟨w1, hw1⟩ : ∃ W, w.alloc (.cells #[.int .i64 pd1, .int .i64 pv1, .int .u64 pn1, .slice pa1 pb1.length pc1] 43) = W := ⟨_, rfl⟩
        have hp1 : Blk w1 w.heap.size 43 #[.int .i64 pd1, .int .i64 pv1, .int .u64 pn1, .slice pa1 pb1.length pc1] := by rw [← hw1]; exact Blk.new w _ _
        have hc1 : Chg w w1 nob := by rw [← hw1]; exact (Chg.refl w nob).alloc _
        have hs1 : w1.heap.size = w.heap.size + 1 := by rw [← hw1, size_al]
        rw [hw1, ← hs1]
        obtain ⟨w2, hw2⟩ : ∃ W, w1.alloc (.cells #[.int .i64 pd2, .int .i64 pv2, .int .u64 pn2, .slice pa2 pb2.length pc2] 43) = W := ⟨_, rfl⟩
        have HQ : Hid (Blk w2 w1.heap.size 43 #[.int .i64 pd2, .int .i64 pv2, .int .u64 pn2, .slice pa2 pb2.length pc2]) := Lib.hid (by rw [← hw2]; exact Blk.new w1 _ _)
        have hc2 : Chg w1 w2 nob := by rw [← hw2]; exact (Chg.refl w1 nob).alloc _
        rw [hw2]
        have HP := Lib.hid (hp1.kept hc2 id)
        have HC : Hid (Chg w w2 nob) := Lib.hid (hc1.trans hc2 (fun _ _ h => h))
        clear hw1 hw2 hp1 hc1 hc2 hs1
        refine (first25_any w2 (HT.out.kept HC.out id)).mono ?_
        rintro e u1 ⟨rfl, hck⟩
        replace HC : Hid (Chg w u1 nob) := Lib.hid (HC.out.trans hck (fun _ _ h => h))
        replace HP := Lib.hid (HP.out.kept hck id)
        replace HQ := Lib.hid (HQ.out.kept hck id)
        clear hck
        have q0 := HP.out.cell 0
        have q1 := HP.out.cell 1
        have q2 := HP.out.cell 2
        have q3 := HP.out.cell 3
        have r0 := HQ.out.cell 0
        have r1 := HQ.out.cell 1
        have r2 := HQ.out.cell 2
        have r3 := HQ.out.cell 3
        simp only [List.getElem?_toArray, List.getElem?_cons_zero, List.getElem?_cons_succ] at q0 q1 q2 q3 r0 r1 r2 r3
        go_wp2_with fail
        go_at_call 28
        have hs := seal_any u1 ⟨pd1, pv1, pn1, pb1⟩ l0 _ _ (HT.out.kept HC.out id) (K0.out.kept HC.out) (KP.out.kept HC.out) WP.out (by omega) (by (show pb1.length ≤ 100000); omega)
        rw [e1.out, R1e.out] at hs
        refine hs.mono ?_
        clear hs
        rintro e u2 ⟨x, rfl, hb⟩
        have hck := hb.2.1
        clear q0 q1 q2 q3 r0 r1 r2 r3
        replace HC : Hid (Chg w u2 nob) := Lib.hid (HC.out.trans hck (fun _ _ h => h))
        replace HP := Lib.hid (HP.out.kept hck id)
        replace HQ := Lib.hid (HQ.out.kept hck id)
        obtain ⟨ax, cx, rfl, hcx⟩ := hb.1.form
        clear hck hb
        have q0 := HP.out.cell 0
        have q1 := HP.out.cell 1
        have q2 := HP.out.cell 2
        have q3 := HP.out.cell 3
        have r0 := HQ.out.cell 0
        have r1 := HQ.out.cell 1
        have r2 := HQ.out.cell 2
        have r3 := HQ.out.cell 3
        simp only [List.getElem?_toArray, List.getElem?_cons_zero, List.getElem?_cons_succ] at q0 q1 q2 q3 r0 r1 r2 r3
        go_wp2_with fail
        go_at_call 28
        have hs := seal_any u2 ⟨pd2, pv2, pn2, pb2⟩ l0 _ _ (HT.out.kept HC.out id) (K0.out.kept HC.out) (KQ.out.kept HC.out) WQ.out (by omega) (by (show pb2.length ≤ 100000); omega)
        rw [e2.out, r2'.out] at hs
        refine hs.mono ?_
        clear hs
        rintro e u3 ⟨y, rfl, hb⟩
        have hck := hb.2.1
        clear q0 q1 q2 q3 r0 r1 r2 r3
        replace HC : Hid (Chg w u3 nob) := Lib.hid (HC.out.trans hck (fun _ _ h => h))
        replace HP := Lib.hid (HP.out.kept hck id)
        replace HQ := Lib.hid (HQ.out.kept hck id)
        obtain ⟨ay, cy, rfl, _⟩ := hb.1.form
        clear hck hb
        have q0 := HP.out.cell 0
        have q1 := HP.out.cell 1
        have q2 := HP.out.cell 2
        have q3 := HP.out.cell 3
        have r0 := HQ.out.cell 0
        have r1 := HQ.out.cell 1
        have r2 := HQ.out.cell 2
        have r3 := HQ.out.cell 3
        simp only [List.getElem?_toArray, List.getElem?_cons_zero, List.getElem?_cons_succ] at q0 q1 q2 q3 r0 r1 r2 r3
        go_wp2_with fail
        go_at_call 34
        refine (may_any u3 ⟨pd1, pv1, pn1, pb1⟩ _ (KP.out.kept HC.out)).mono ?_
        rw [HMD.out]
        rintro e u4 ⟨rfl, hck⟩
        clear q0 q1 q2 q3 r0 r1 r2 r3
        replace HC : Hid (Chg w u4 nob) := Lib.hid (HC.out.trans hck (fun _ _ h => h))
        replace HP := Lib.hid (HP.out.kept hck id)
        replace HQ := Lib.hid (HQ.out.kept hck id)
        clear hck
        go_wp2_with fail
        go_at_call 23
        refine (first25_any u4 (HT.out.kept HC.out id)).mono ?_
        rintro e x ⟨rfl, hx⟩
        have HXX := Lib.hid hx
        clear hx
        go_wp2
        go_ret
        exact ⟨rfl, HC.out.trans HXX.out (fun _ _ h => h)⟩
    · have e1 : Hid (sealE ⟨pd1, pv1, pn1, pb1⟩ = 1) := Lib.hid (if_neg hmp)
      have R1e : Hid (sealR l0 ⟨pd1, pv1, pn1, pb1⟩ = []) := Lib.hid (if_neg hmp)
      have HMD := Lib.hid (decide_eq_false hmp)
      clear hmp
      obtain ⟨c2, e2⟩ : ∃ c, sealE ⟨pd2, pv2, pn2, pb2⟩ = c := ⟨_, rfl⟩
      obtain ⟨S2, r2'⟩ : ∃ c, sealR l0 ⟨pd2, pv2, pn2, pb2⟩ = c := ⟨_, rfl⟩
      have E2 := Lib.hid e2
      have R2 := Lib.hid r2'
      clear e2 r2'
      go_enter Tryd.func9, Tryd.ntmps9
      go_wp2_with fail
      go_at_call 23
      obtain ⟨w1, hw1⟩ : ∃ W, w.alloc (.cells #[.int .i64 pd1, .int .i64 pv1, .int .u64 pn1, .slice pa1 pb1.length pc1] 43) = W := ⟨_, rfl⟩
      have hp1 : Blk w1 w.heap.size 43 #[.int .i64 pd1, .int .i64 pv1, .int .u64 pn1, .slice pa1 pb1.length pc1] := by rw [← hw1]; exact Blk.new w _ _
      have hc1 : Chg w w1 nob := by rw [← hw1]; exact (Chg.refl w nob).alloc _
      have hs1 : w1.heap.size = w.heap.size + 1 := by rw [← hw1, size_al]
      rw [hw1, ← hs1]
      obtain ⟨w2, hw2⟩ : ∃ W, w1.alloc (.cells #[.int .i64 pd2, .int .i64 pv2, .int .u64 pn2, .slice pa2 pb2.length pc2] 43) = W := ⟨_, rfl⟩
      have HQ : Hid (Blk w2 w1.heap.size 43 #[.int .i64 pd2, .int .i64 pv2, .int .u64 pn2, .slice pa2 pb2.length pc2]) := Lib.hid (by rw [← hw2]; exact Blk.new w1 _ _)
      have hc2 : Chg w1 w2 nob := by rw [← hw2]; exact (Chg.refl w1 nob).alloc _
      rw [hw2]
      have HP := Lib.hid (hp1.kept hc2 id)
      have HC : Hid (Chg w w2 nob) := Lib.hid (hc1.trans hc2 (fun _ _ h => h))
      clear hw1 hw2 hp1 hc1 hc2 hs1
      refine (first25_any w2 (HT.out.kept HC.out id)).mono ?_
      rintro e u1 ⟨rfl, hck⟩
      replace HC : Hid (Chg w u1 nob) := Lib.hid (HC.out.trans hck (fun _ _ h => h))
      replace HP := Lib.hid (HP.out.kept hck id)
      replace HQ := Lib.hid (HQ.out.kept hck id)
      clear hck
      have q0 := HP.out.cell 0
      have q1 := HP.out.cell 1
      have q2 := HP.out.cell 2
      have q3 := HP.out.cell 3
      have r0 := HQ.out.cell 0
      have r1 := HQ.out.cell 1
      have r2 := HQ.out.cell 2
      have r3 := HQ.out.cell 3
      simp only [List.getElem?_toArray, List.getElem?_cons_zero, List.getElem?_cons_succ] at q0 q1 q2 q3 r0 r1 r2 r3
      go_wp2_with fail
      go_at_call 28
      have hs := seal_any u1 ⟨pd1, pv1, pn1, pb1⟩ l0 _ _ (HT.out.kept HC.out id) (K0.out.kept HC.out) (KP.out.kept HC.out) WP.out (by omega) (by (show pb1.length ≤ 100000); omega)
      rw [e1.out, R1e.out] at hs
      refine hs.mono ?_
      clear hs
      rintro e u2 ⟨x, rfl, hb⟩
      have hck := hb.2.1
      clear q0 q1 q2 q3 r0 r1 r2 r3
      replace HC : Hid (Chg w u2 nob) := Lib.hid (HC.out.trans hck (fun _ _ h => h))
      replace HP := Lib.hid (HP.out.kept hck id)
      replace HQ := Lib.hid (HQ.out.kept hck id)
      obtain ⟨ax, cx, rfl, hcx⟩ := hb.1.form
      clear hck hb
      have q0 := HP.out.cell 0
      have q1 := HP.out.cell 1
      have q2 := HP.out.cell 2
      have q3 := HP.out.cell 3
      have r0 := HQ.out.cell 0
      have r1 := HQ.out.cell 1
      have r2 := HQ.out.cell 2
      have r3 := HQ.out.cell 3
      simp only [List.getElem?_toArray, List.getElem?_cons_zero, List.getElem?_cons_succ] at q0 q1 q2 q3 r0 r1 r2 r3
      simp only [List.length_nil]
      go_wp2_with fail
      go_at_call 28
      have hs := seal_any u2 ⟨pd2, pv2, pn2, pb2⟩ l0 _ _ (HT.out.kept HC.out id) (K0.out.kept HC.out) (KQ.out.kept HC.out) WQ.out (by omega) (by (show pb2.length ≤ 100000); omega)
      rw [E2.out, R2.out] at hs
      refine hs.mono ?_
      clear hs
      rintro e u3 ⟨y, rfl, hb⟩
      have hck := hb.2.1
      clear q0 q1 q2 q3 r0 r1 r2 r3
      replace HC : Hid (Chg w u3 nob) := Lib.hid (HC.out.trans hck (fun _ _ h => h))
      replace HP := Lib.hid (HP.out.kept hck id)
      replace HQ := Lib.hid (HQ.out.kept hck id)
      obtain ⟨ay, cy, rfl, _⟩ := hb.1.form
      clear hck hb
      have q0 := HP.out.cell 0
      have q1 := HP.out.cell 1
      have q2 := HP.out.cell 2
      have q3 := HP.out.cell 3
      have r0 := HQ.out.cell 0
      have r1 := HQ.out.cell 1
      have r2 := HQ.out.cell 2
      have r3 := HQ.out.cell 3
      simp only [List.getElem?_toArray, List.getElem?_cons_zero, List.getElem?_cons_succ] at q0 q1 q2 q3 r0 r1 r2 r3
      go_wp2_with fail
      go_at_call 34
      refine (may_any u3 ⟨pd1, pv1, pn1, pb1⟩ _ (KP.out.kept HC.out)).mono ?_
      rw [HMD.out]
      rintro e u4 ⟨rfl, hck⟩
      clear q0 q1 q2 q3 r0 r1 r2 r3
      replace HC : Hid (Chg w u4 nob) := Lib.hid (HC.out.trans hck (fun _ _ h => h))
      replace HP := Lib.hid (HP.out.kept hck id)
      replace HQ := Lib.hid (HQ.out.kept hck id)
      clear hck
      go_wp2_with fail
      go_at_call 23
      refine (first25_any u4 (HT.out.kept HC.out id)).mono ?_
      rintro e x ⟨rfl, hx⟩
      have HXX := Lib.hid hx
      clear hx
      go_wp2
      go_ret
      exact ⟨rfl, HC.out.trans HXX.out (fun _ _ h => h)⟩
  · have hin2 : Hid (¬ inApart l0.length pb1.length pb2.length) := Lib.hid hin
    clear hin
    go_enter Tryd.func9, Tryd.ntmps9
    go_wp2_with fail
    go_at_call 23
    obtain ⟨w1, hw1⟩ : ∃ W, w.alloc (.cells #[.int .i64 pd1, .int .i64 pv1, .int .u64 pn1, .slice pa1 pb1.length pc1] 43) = W := ⟨_, rfl⟩
    have hp1 : Blk w1 w.heap.size 43 #[.int .i64 pd1, .int .i64 pv1, .int .u64 pn1, .slice pa1 pb1.length pc1] := by rw [← hw1]; exact Blk.new w _ _
    have hc1 : Chg w w1 nob := by rw [← hw1]; exact (Chg.refl w nob).alloc _
    have hs1 : w1.heap.size = w.heap.size + 1 := by rw [← hw1, size_al]
    rw [hw1, ← hs1]
    obtain ⟨w2, hw2⟩ : ∃ W, w1.alloc (.cells #[.int .i64 pd2, .int .i64 pv2, .int .u64 pn2, .slice pa2 pb2.length pc2] 43) = W := ⟨_, rfl⟩
    have HQ : Hid (Blk w2 w1.heap.size 43 #[.int .i64 pd2, .int .i64 pv2, .int .u64 pn2, .slice pa2 pb2.length pc2]) := Lib.hid (by rw [← hw2]; exact Blk.new w1 _ _)
    have hc2 : Chg w1 w2 nob := by rw [← hw2]; exact (Chg.refl w1 nob).alloc _
    rw [hw2]
    have HP := Lib.hid (hp1.kept hc2 id)
    have HC : Hid (Chg w w2 nob) := Lib.hid (hc1.trans hc2 (fun _ _ h => h))
    clear hw1 hw2 hp1 hc1 hc2 hs1
    refine (first25_any w2 (HT.out.kept HC.out id)).mono ?_
    rintro e u1 ⟨rfl, hck⟩
    replace HC : Hid (Chg w u1 nob) := Lib.hid (HC.out.trans hck (fun _ _ h => h))
    replace HP := Lib.hid (HP.out.kept hck id)
    replace HQ := Lib.hid (HQ.out.kept hck id)
    clear hck
    have q0 := HP.out.cell 0
    have q1 := HP.out.cell 1
    have q2 := HP.out.cell 2
    have q3 := HP.out.cell 3
    have r0 := HQ.out.cell 0
    have r1 := HQ.out.cell 1
    have r2 := HQ.out.cell 2
    have r3 := HQ.out.cell 3
    simp only [List.getElem?_toArray, List.getElem?_cons_zero, List.getElem?_cons_succ] at q0 q1 q2 q3 r0 r1 r2 r3
    go_wp2_with fail
    all_goals first
      | (exfalso; exact hin2.out ⟨by omega, by omega, by omega⟩)
      | (go_at_call 23
         refine (first25_any u1 (HT.out.kept HC.out id)).mono ?_
         rintro e x ⟨rfl, hx⟩
         have HX := Lib.hid hx
         clear hx
         go_wp2
         go_ret
         exact ⟨rfl, HC.out.trans HX.out (fun _ _ h => h)⟩)
end Go.Proofs.YtajcefdbljbmdaaDoor
