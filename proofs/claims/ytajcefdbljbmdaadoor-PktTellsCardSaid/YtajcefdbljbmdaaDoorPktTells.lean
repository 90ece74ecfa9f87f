/-
  PktTells: sealed, opened, or why not: as the document says.
-/
import Derived.Test.YtajcefdbljbmdaaDoorPk6
namespace Go.Proofs.YtajcefdbljbmdaaDoor
open Go.RowKit
set_option linter.unusedVariables false
set_option linter.unusedSimpArgs false

theorem openL_byte (K B : List Int) (hb : ∀ x ∈ B, 0 ≤ x ∧ x ≤ 255) : ∀ x ∈ (openL K B).1.b, 0 ≤ x ∧ x ≤ 255 := by
  unfold openL
  split
  · intro x hx; cases hx
  · split
    · split
      · intro x hx; exact hb x (List.mem_of_mem_take (List.mem_of_mem_drop hx))
      · intro x hx; cases hx
    · intro x hx; cases hx
theorem openL_len (K B : List Int) : (openL K B).1.b.length ≤ B.length := by
  unfold openL
  split
  · exact Nat.zero_le _
  · split
    · split
      · simp [openP]; omega
      · exact Nat.zero_le _
    · exact Nat.zero_le _
theorem sealR_byte (K : List Int) (p : Pk) (hb : ∀ x ∈ p.b, 0 ≤ x ∧ x ≤ 255) : ∀ x ∈ sealR K p, 0 ≤ x ∧ x ≤ 255 := by
  unfold sealR
  split
  · exact sealL_byte K p hb
  · intro x hx; cases hx
def inTells (a b c d : Nat) : Prop := a ≤ 3000 ∧ b ≤ 3000 ∧ c ≤ 3000 ∧ d ≤ 3000
set_option maxRecDepth 100000 in
set_option maxHeartbeats 1500000 in
theorem PktTells_walk (a0 : Option Addr) (len0 cap0 : Nat) (pd1 pv1 pn1 : Int) (pa1 : Option Addr) (pc1 : Nat) (pb1 : List Int) (pd2 pv2 pn2 : Int) (pa2 : Option Addr) (pc2 : Nat) (pb2 : List Int) (a3 : Option Addr) (len3 cap3 : Nat) (w : World) (l0 l3 : List Int)
    (hr0 : Rd w 1 (.slice a0 len0 cap0) len0 (l0.map (Value.int .u8))) (hl0 : l0.length = len0) (y0 : len0 * 1 ≤ 140737488351232) (w0 : ∀ x ∈ l0, 0 ≤ x ∧ x ≤ 255) (nk0 : NilOk (.slice a0 len0 cap0))
    (h1 : By w (.slice pa1 pb1.length pc1) pb1) (h2 : By w (.slice pa2 pb2.length pc2) pb2) (w1 : Pk.Ok ⟨pd1, pv1, pn1, pb1⟩) (w2 : Pk.Ok ⟨pd2, pv2, pn2, pb2⟩)
    (hr3 : Rd w 1 (.slice a3 len3 cap3) len3 (l3.map (Value.int .u8))) (hl3 : l3.length = len3) (y3 : len3 * 1 ≤ 140737488351232) (w3 : ∀ x ∈ l3, 0 ≤ x ∧ x ≤ 255) (nk3 : NilOk (.slice a3 len3 cap3)) (ht : Tab w) :
    Calls Tryd.prog 7 #[.slice a0 len0 cap0, pkV ⟨pd1, pv1, pn1, pb1⟩ (.slice pa1 pb1.length pc1), pkV ⟨pd2, pv2, pn2, pb2⟩ (.slice pa2 pb2.length pc2), .slice a3 len3 cap3] w fun e w' => e = .returned (.bool true) ∧ Chg w w' nob := by
  subst hl0 hl3
  have K0 : Hid (By w (.slice a0 l0.length cap0) l0) := Lib.hid ⟨hr0, nk0, w0⟩
  have K3 : Hid (By w (.slice a3 l3.length cap3) l3) := Lib.hid ⟨hr3, nk3, w3⟩
  have KP := Lib.hid h1
  have KQ := Lib.hid h2
  have WP := Lib.hid w1
  have WQ := Lib.hid w2
  have HT := Lib.hid ht
  have i0 : (0 : Int) ≤ (l0.length : Int) := by omega
  have i1 : (0 : Int) ≤ (pb1.length : Int) := by omega
  have i2 : (0 : Int) ≤ (pb2.length : Int) := by omega
  have i3 : (0 : Int) ≤ (l3.length : Int) := by omega
  clear hr0 nk0 w0 hr3 nk3 w3 h1 h2 w1 w2 ht
  simp only [pkV]
  by_cases hin : inTells l0.length pb1.length pb2.length l3.length
  · obtain ⟨h1, h2, h3, h4⟩ := hin
    have j0 : (l0.length : Int) ≤ 3000 := by omega
    have j1 : (pb1.length : Int) ≤ 3000 := by omega
    have j2 : (pb2.length : Int) ≤ 3000 := by omega
    have j3 : (l3.length : Int) ≤ 3000 := by omega
    go_enter Tryd.func7, Tryd.ntmps7
    go_wp2_with fail
    go_at_call 23
    obtain ⟨w1, hw1⟩ : ∃ W, w.alloc (.cells #[.int .i64 pd1, .int .i64 pv1, .int .u64 pn1, .slice pa1 pb1.length pc1] 43) = W := ⟨_, rfl⟩
    have hp1 : Blk w1 w.heap.size 43 #[.int .i64 pd1, .int .i64 pv1, .int .u64 pn1, .slice pa1 pb1.length pc1] := by rw [← hw1]; exact Blk.new w _ _
    have hc1 : Chg w w1 nob := by rw [← hw1]; exact (Chg.refl w nob).alloc _
    have hs1 : w1.heap.size = w.heap.size + 1 := by rw [← hw1, size_al]
    rw [hw1, ← hs1]
    obtain ⟨w2, hw2⟩ : ∃ W, w1.alloc (.cells #[.int .i64 pd2, .int .i64 pv2, .int .u64 pn2, .slice pa2 pb2.length pc2] 43) = W := ⟨_, rfl⟩
    have HQ : Hid (Blk w2 w1.heap.size 43 #[.int .i64 pd2, .int .i64 pv2, .int .u64 pn2, .slice pa2 pb2.length pc2]) := Lib.hid (by rw [← hw2]; exact Blk.new w1 _ _)
    have hc2 : Chg w1 w2 nob := by rw [← hw2]; exact (Chg.refl w1 nob).alloc _
    rw [hw2]
    have HP := Lib.hid (hp1.kept hc2 id)
    have HC : Hid (Chg w w2 nob) := Lib.hid (hc1.trans hc2 (fun _ _ h => h))
    clear hw1 hw2 hp1 hc1 hc2 hs1
    refine (first25_any w2 (HT.out.kept HC.out id)).mono ?_
    rintro e u1 ⟨rfl, hck⟩
    replace HC : Hid (Chg w u1 nob) := Lib.hid (HC.out.trans hck (fun _ _ h => h))
    replace HP := Lib.hid (HP.out.kept hck id)
    replace HQ := Lib.hid (HQ.out.kept hck id)
    clear hck
    have q0 := HP.out.cell 0
    have q1 := HP.out.cell 1
    have q2 := HP.out.cell 2
    have q3 := HP.out.cell 3
    have r0 := HQ.out.cell 0
    have r1 := HQ.out.cell 1
    have r2 := HQ.out.cell 2
    have r3 := HQ.out.cell 3
    simp only [List.getElem?_toArray, List.getElem?_cons_zero, List.getElem?_cons_succ] at q0 q1 q2 q3 r0 r1 r2 r3
    go_wp2_with fail
    go_at_call 28
    have HSB : Hid (∀ x ∈ sealR l0 ⟨pd1, pv1, pn1, pb1⟩, 0 ≤ x ∧ x ≤ 255) := Lib.hid (sealR_byte _ _ KP.out.byte)
    have hs := seal_any u1 ⟨pd1, pv1, pn1, pb1⟩ l0 _ _ (HT.out.kept HC.out id) (K0.out.kept HC.out) (KP.out.kept HC.out) WP.out (by omega) (by (show pb1.length ≤ 100000); omega)
    have hs2 := fun (w : World) (h1 : By w _ l0) (h2 : By w (.slice pa1 pb1.length pc1) pb1) => rseal_any w ⟨pd1, pv1, pn1, pb1⟩ l0 (.slice a0 l0.length cap0) (.slice pa1 pb1.length pc1) h1 h2 WP.out (by omega) (by (show pb1.length ≤ 100000); omega)
    obtain ⟨S, hS⟩ : ∃ S, sealR l0 ⟨pd1, pv1, pn1, pb1⟩ = S := ⟨_, rfl⟩
    obtain ⟨E, hE⟩ : ∃ E, sealE ⟨pd1, pv1, pn1, pb1⟩ = E := ⟨_, rfl⟩
    rw [hS, hE] at hs
    rw [hS] at HSB
    simp only [hS, hE] at hs2
    have HS2 := Lib.hid hs2
    refine hs.mono ?_
    clear hs hs2 hS hE
    rintro e u2 ⟨x, rfl, hb⟩
    have HX := Lib.hid (By.ofBx hb HSB.out)
    have hck := hb.2.1
    replace HC : Hid (Chg w u2 nob) := Lib.hid (HC.out.trans hck (fun _ _ h => h))
    replace HP := Lib.hid (HP.out.kept hck id)
    replace HQ := Lib.hid (HQ.out.kept hck id)
    obtain ⟨ax, cx, rfl, _⟩ := hb.1.form
    clear hck hb
    clear q0 q1 q2 q3 r0 r1 r2 r3
    have q0 := HP.out.cell 0
    have q1 := HP.out.cell 1
    have q2 := HP.out.cell 2
    have q3 := HP.out.cell 3
    have r0 := HQ.out.cell 0
    have r1 := HQ.out.cell 1
    have r2 := HQ.out.cell 2
    have r3 := HQ.out.cell 3
    simp only [List.getElem?_toArray, List.getElem?_cons_zero, List.getElem?_cons_succ] at q0 q1 q2 q3 r0 r1 r2 r3
    go_wp2_with fail
    go_at_call 30
    refine (plain_any u2 ⟨pd1, pv1, pn1, pb1⟩ _ (KP.out.kept HC.out)).mono ?_
    rintro e u3 ⟨rfl, hck⟩
    replace HC : Hid (Chg w u3 nob) := Lib.hid (HC.out.trans hck (fun _ _ h => h))
    replace HP := Lib.hid (HP.out.kept hck id)
    replace HQ := Lib.hid (HQ.out.kept hck id)
    replace HX := Lib.hid (HX.out.kept hck)
    clear hck
    clear q0 q1 q2 q3 r0 r1 r2 r3
    simp only [pkV]
    go_wp2_with fail
    go_at_call 29
    refine (HS2.out u3 (K0.out.kept HC.out) (KP.out.kept HC.out)).mono ?_
    rintro e u4 ⟨y, rfl, hb⟩
    have HY := Lib.hid (By.ofBx hb HSB.out)
    have hck := hb.2.1
    replace HC : Hid (Chg w u4 nob) := Lib.hid (HC.out.trans hck (fun _ _ h => h))
    replace HP := Lib.hid (HP.out.kept hck id)
    replace HQ := Lib.hid (HQ.out.kept hck id)
    replace HX := Lib.hid (HX.out.kept hck)
    obtain ⟨ay, cy, rfl, _⟩ := hb.1.form
    clear hck hb HS2
    have HOB : Hid (∀ x ∈ (openL l0 l3).1.b, 0 ≤ x ∧ x ≤ 255) := Lib.hid (openL_byte _ _ K3.out.byte)
    have ho := open_any u4 l0 l3 _ _ (HT.out.kept HC.out id) (K0.out.kept HC.out) (K3.out.kept HC.out) (by omega) (by omega)
    have ho2 := fun (w : World) (h1 : By w _ l0) (h2 : By w (.slice a3 l3.length cap3) l3) => ropen_any w l0 l3 (.slice a0 l0.length cap0) (.slice a3 l3.length cap3) h1 h2 (by omega) (by omega)
    obtain ⟨R, hR⟩ : ∃ R, openL l0 l3 = R := ⟨_, rfl⟩
    rw [hR] at ho HOB
    simp only [hR] at ho2
    obtain ⟨⟨rd, rv, rn, rb⟩, rc⟩ := R
    simp only at ho ho2 HOB
    have HO2 := Lib.hid ho2
    go_wp2_with fail
    go_at_call 31
    refine ho.mono ?_
    clear ho ho2 hR
    rintro e u5 ⟨z, rfl, hb⟩
    have HZ := Lib.hid (By.ofBx hb HOB.out)
    have hck := hb.2.1
    replace HC : Hid (Chg w u5 nob) := Lib.hid (HC.out.trans hck (fun _ _ h => h))
    replace HP := Lib.hid (HP.out.kept hck id)
    replace HQ := Lib.hid (HQ.out.kept hck id)
    replace HX := Lib.hid (HX.out.kept hck)
    replace HY := Lib.hid (HY.out.kept hck)
    obtain ⟨az, cz, rfl, _⟩ := hb.1.form
    clear hck hb
    simp only [pkV]
    go_wp2_with fail
    go_at_call 32
    obtain ⟨u6, hu6⟩ : ∃ W, u5.alloc (.cells #[.int .i64 rd, .int .i64 rv, .int .u64 rn, .slice az rb.length cz] 43) = W := ⟨_, rfl⟩
    have HU : Hid (Blk u6 u5.heap.size 43 #[.int .i64 rd, .int .i64 rv, .int .u64 rn, .slice az rb.length cz]) := Lib.hid (by rw [← hu6]; exact Blk.new u5 _ _)
    have hck : Chg u5 u6 nob := by rw [← hu6]; exact (Chg.refl u5 nob).alloc _
    rw [hu6]
    replace HC : Hid (Chg w u6 nob) := Lib.hid (HC.out.trans hck (fun _ _ h => h))
    replace HP := Lib.hid (HP.out.kept hck id)
    replace HQ := Lib.hid (HQ.out.kept hck id)
    replace HX := Lib.hid (HX.out.kept hck)
    replace HY := Lib.hid (HY.out.kept hck)
    replace HZ := Lib.hid (HZ.out.kept hck)
    clear hck hu6
    refine (HO2.out u6 (K0.out.kept HC.out) (K3.out.kept HC.out)).mono ?_
    rintro e u7 ⟨z2, rfl, hb⟩
    have HZ2 := Lib.hid (By.ofBx hb HOB.out)
    have hck := hb.2.1
    replace HC : Hid (Chg w u7 nob) := Lib.hid (HC.out.trans hck (fun _ _ h => h))
    replace HP := Lib.hid (HP.out.kept hck id)
    replace HQ := Lib.hid (HQ.out.kept hck id)
    replace HX := Lib.hid (HX.out.kept hck)
    replace HY := Lib.hid (HY.out.kept hck)
    replace HZ := Lib.hid (HZ.out.kept hck)
    replace HU := Lib.hid (HU.out.kept hck id)
    obtain ⟨az2, cz2, rfl, _⟩ := hb.1.form
    clear hck hb HO2
    simp only [pkV]
    go_wp2_with fail
    obtain ⟨u8, hu8⟩ : ∃ W, u7.alloc (.cells #[.int .i64 rd, .int .i64 rv, .int .u64 rn, .slice az2 rb.length cz2] 47) = W := ⟨_, rfl⟩
    have HV : Hid (Blk u8 u7.heap.size 47 #[.int .i64 rd, .int .i64 rv, .int .u64 rn, .slice az2 rb.length cz2]) := Lib.hid (by rw [← hu8]; exact Blk.new u7 _ _)
    have hck : Chg u7 u8 nob := by rw [← hu8]; exact (Chg.refl u7 nob).alloc _
    rw [hu8]
    replace HC : Hid (Chg w u8 nob) := Lib.hid (HC.out.trans hck (fun _ _ h => h))
    replace HP := Lib.hid (HP.out.kept hck id)
    replace HQ := Lib.hid (HQ.out.kept hck id)
    replace HX := Lib.hid (HX.out.kept hck)
    replace HY := Lib.hid (HY.out.kept hck)
    replace HZ := Lib.hid (HZ.out.kept hck)
    replace HZ2 := Lib.hid (HZ2.out.kept hck)
    replace HU := Lib.hid (HU.out.kept hck id)
    clear hck hu8
    refine wp_one [12, 14, 23, 25, 31, 32, 34, 36] [0, 4, 13, 15, 24, 26, 27, 33, 35, 37, 38] [(13, [14]), (24, [25]), (33, [34, 36]), (35, [36])] [0, 1, 2, 3, 4, 5, 6, 7, 8, 9, 10, 11, 12, 14, 13, 15, 16, 17, 18, 19, 20, 21, 22, 23, 25, 24, 26, 27, 28, 29, 30, 31, 32, 34, 36, 33, 35, 37, 38, 39, 40, 41] rfl (by kernel_rfl) (fun _ _ _ _ _ h => h) ?_; simp only [List.map_cons, List.map_nil, List.getElem?_toArray, List.getElem?_cons_zero, List.getElem?_cons_succ]
    obtain ⟨wd, hwd⟩ : ∃ W, World.drew u8 = W := ⟨_, rfl⟩
    have hck : Chg u8 wd nob := by rw [← hwd]; exact (Chg.refl u8 nob).drew
    rw [hwd]
    clear hwd
    replace HX := Lib.hid (HX.out.kept hck)
    replace HY := Lib.hid (HY.out.kept hck)
    replace HC : Hid (Chg w wd nob) := Lib.hid (HC.out.trans hck (fun _ _ h => h))
    replace HP := Lib.hid (HP.out.kept hck id)
    replace HQ := Lib.hid (HQ.out.kept hck id)
    replace HZ := Lib.hid (HZ.out.kept hck)
    replace HZ2 := Lib.hid (HZ2.out.kept hck)
    replace HU := Lib.hid (HU.out.kept hck id)
    replace HV := Lib.hid (HV.out.kept hck id)
    clear hck
    (repeat (first | (apply can0; (· rfl); (· rfl); (· (intro w'; first | (go_simp; with_reducible rfl) | (go_simp; done))); simp only [Act.put, List.setIfInBounds_toArray, List.set_cons_zero, List.set_cons_succ]) | (apply can1; (· rfl); (· rfl); (· (first | (go_simp; with_reducible rfl) | (go_simp; done))); simp only [Act.put, List.setIfInBounds_toArray, List.set_cons_zero, List.set_cons_succ]) | (apply canN; (· rfl); (· rfl); simp only [Act.put, List.setIfInBounds_toArray, List.set_cons_zero, List.set_cons_succ]) | (apply canN1; (· rfl); (· rfl); simp only [Act.put, List.setIfInBounds_toArray, List.set_cons_zero, List.set_cons_succ]) | (apply can0; (· rfl); (· (go_simp; done)); (· (intro w'; first | (go_simp; with_reducible rfl) | (go_simp; done))); simp only [Act.put, List.setIfInBounds_toArray, List.set_cons_zero, List.set_cons_succ]) | (apply can1; (· rfl); (· (go_simp; done)); (· (first | (go_simp; with_reducible rfl) | (go_simp; done))); simp only [Act.put, List.setIfInBounds_toArray, List.set_cons_zero, List.set_cons_succ]) | (apply canN; (· rfl); (· (go_simp; done)); simp only [Act.put, List.setIfInBounds_toArray, List.set_cons_zero, List.set_cons_succ]) | (apply canN1; (· rfl); (· (go_simp; done)); simp only [Act.put, List.setIfInBounds_toArray, List.set_cons_zero, List.set_cons_succ])))
    refine canW rfl [] rfl (fun K hK => ?_)
    go_simp
    go_at_call 23
    refine (first25_any wd (HT.out.kept HC.out id)).mono ?_
    rintro e v1 ⟨rfl, hck⟩
    replace HX := Lib.hid (HX.out.kept hck)
    replace HY := Lib.hid (HY.out.kept hck)
    replace HC : Hid (Chg w v1 nob) := Lib.hid (HC.out.trans hck (fun _ _ h => h))
    replace HP := Lib.hid (HP.out.kept hck id)
    replace HQ := Lib.hid (HQ.out.kept hck id)
    replace HZ := Lib.hid (HZ.out.kept hck)
    replace HZ2 := Lib.hid (HZ2.out.kept hck)
    replace HU := Lib.hid (HU.out.kept hck id)
    replace HV := Lib.hid (HV.out.kept hck id)
    clear hck
    (refine hK _ _ (fun u hu => by cases hu) ?_; clear hK K; try simp only [Act.put, List.setIfInBounds_toArray, List.set_cons_zero, List.set_cons_succ])
    (repeat (first | (apply can0; (· rfl); (· rfl); (· (intro w'; first | (go_simp; with_reducible rfl) | (go_simp; done))); simp only [Act.put, List.setIfInBounds_toArray, List.set_cons_zero, List.set_cons_succ]) | (apply can1; (· rfl); (· rfl); (· (first | (go_simp; with_reducible rfl) | (go_simp; done))); simp only [Act.put, List.setIfInBounds_toArray, List.set_cons_zero, List.set_cons_succ]) | (apply canN; (· rfl); (· rfl); simp only [Act.put, List.setIfInBounds_toArray, List.set_cons_zero, List.set_cons_succ]) | (apply canN1; (· rfl); (· rfl); simp only [Act.put, List.setIfInBounds_toArray, List.set_cons_zero, List.set_cons_succ]) | (apply can0; (· rfl); (· (go_simp; done)); (· (intro w'; first | (go_simp; with_reducible rfl) | (go_simp; done))); simp only [Act.put, List.setIfInBounds_toArray, List.set_cons_zero, List.set_cons_succ]) | (apply can1; (· rfl); (· (go_simp; done)); (· (first | (go_simp; with_reducible rfl) | (go_simp; done))); simp only [Act.put, List.setIfInBounds_toArray, List.set_cons_zero, List.set_cons_succ]) | (apply canN; (· rfl); (· (go_simp; done)); simp only [Act.put, List.setIfInBounds_toArray, List.set_cons_zero, List.set_cons_succ]) | (apply canN1; (· rfl); (· (go_simp; done)); simp only [Act.put, List.setIfInBounds_toArray, List.set_cons_zero, List.set_cons_succ])))
    refine canW rfl [] rfl (fun K hK => ?_)
    go_simp
    go_at_call 18
    refine (bytes_by HX.out HY.out).mono ?_
    rw [show decide (S = S) = true from decide_eq_true rfl]
    rintro e y ⟨rfl, rfl⟩
    clear HX HY
    (refine hK _ _ (fun u hu => by cases hu) ?_; clear hK K; try simp only [Act.put, List.setIfInBounds_toArray, List.set_cons_zero, List.set_cons_succ])
    have s0 := HU.out.cell 0
    have s1 := HU.out.cell 1
    have s2 := HU.out.cell 2
    have s3 := HU.out.cell 3
    have t0 := HV.out.cell 0
    have t1 := HV.out.cell 1
    have t2 := HV.out.cell 2
    have t3 := HV.out.cell 3
    simp only [List.getElem?_toArray, List.getElem?_cons_zero, List.getElem?_cons_succ] at s0 s1 s2 s3 t0 t1 t2 t3
    (repeat (first | (apply can0; (· rfl); (· rfl); (· (intro w'; first | (go_simp; with_reducible rfl) | (go_simp; done))); simp only [Act.put, List.setIfInBounds_toArray, List.set_cons_zero, List.set_cons_succ]) | (apply can1; (· rfl); (· rfl); (· (first | (go_simp; with_reducible rfl) | (go_simp; done))); simp only [Act.put, List.setIfInBounds_toArray, List.set_cons_zero, List.set_cons_succ]) | (apply canN; (· rfl); (· rfl); simp only [Act.put, List.setIfInBounds_toArray, List.set_cons_zero, List.set_cons_succ]) | (apply canN1; (· rfl); (· rfl); simp only [Act.put, List.setIfInBounds_toArray, List.set_cons_zero, List.set_cons_succ]) | (apply can0; (· rfl); (· (go_simp; done)); (· (intro w'; first | (go_simp; with_reducible rfl) | (go_simp; done))); simp only [Act.put, List.setIfInBounds_toArray, List.set_cons_zero, List.set_cons_succ]) | (apply can1; (· rfl); (· (go_simp; done)); (· (first | (go_simp; with_reducible rfl) | (go_simp; done))); simp only [Act.put, List.setIfInBounds_toArray, List.set_cons_zero, List.set_cons_succ]) | (apply canN; (· rfl); (· (go_simp; done)); simp only [Act.put, List.setIfInBounds_toArray, List.set_cons_zero, List.set_cons_succ]) | (apply canN1; (· rfl); (· (go_simp; done)); simp only [Act.put, List.setIfInBounds_toArray, List.set_cons_zero, List.set_cons_succ])))
    refine canW rfl [14] rfl (fun K hK => ?_)
    go_simp
    go_at_call 30
    refine (plain_any v1 ⟨rd, rv, rn, rb⟩ (.slice az rb.length cz) HZ.out).mono ?_
    rintro e v2 ⟨rfl, hck⟩
    clear s0 s1 s2 s3 t0 t1 t2 t3
    replace HC : Hid (Chg w v2 nob) := Lib.hid (HC.out.trans hck (fun _ _ h => h))
    replace HP := Lib.hid (HP.out.kept hck id)
    replace HQ := Lib.hid (HQ.out.kept hck id)
    replace HZ := Lib.hid (HZ.out.kept hck)
    replace HZ2 := Lib.hid (HZ2.out.kept hck)
    replace HU := Lib.hid (HU.out.kept hck id)
    replace HV := Lib.hid (HV.out.kept hck id)
    clear hck
    have s0 := HU.out.cell 0
    have s1 := HU.out.cell 1
    have s2 := HU.out.cell 2
    have s3 := HU.out.cell 3
    have t0 := HV.out.cell 0
    have t1 := HV.out.cell 1
    have t2 := HV.out.cell 2
    have t3 := HV.out.cell 3
    simp only [List.getElem?_toArray, List.getElem?_cons_zero, List.getElem?_cons_succ] at s0 s1 s2 s3 t0 t1 t2 t3
    (refine hK _ _ (fun u hu => by (simp only [List.mem_cons, List.not_mem_nil, or_false] at hu); (first | (subst hu; exact reRun_mk rfl (by first | (go_simp; with_reducible rfl) | (go_simp; done)) (holds_at rfl)) | ((repeat' (first | (rcases hu with rfl | hu) | (subst hu))) <;> exact reRun_mk rfl (by first | (go_simp; with_reducible rfl) | (go_simp; done)) (holds_at rfl)))) ?_; clear hK K; try simp only [Act.put, List.setIfInBounds_toArray, List.set_cons_zero, List.set_cons_succ])
    (repeat (first | (apply can0; (· rfl); (· rfl); (· (intro w'; first | (go_simp; with_reducible rfl) | (go_simp; done))); simp only [Act.put, List.setIfInBounds_toArray, List.set_cons_zero, List.set_cons_succ]) | (apply can1; (· rfl); (· rfl); (· (first | (go_simp; with_reducible rfl) | (go_simp; done))); simp only [Act.put, List.setIfInBounds_toArray, List.set_cons_zero, List.set_cons_succ]) | (apply canN; (· rfl); (· rfl); simp only [Act.put, List.setIfInBounds_toArray, List.set_cons_zero, List.set_cons_succ]) | (apply canN1; (· rfl); (· rfl); simp only [Act.put, List.setIfInBounds_toArray, List.set_cons_zero, List.set_cons_succ]) | (apply can0; (· rfl); (· (go_simp; done)); (· (intro w'; first | (go_simp; with_reducible rfl) | (go_simp; done))); simp only [Act.put, List.setIfInBounds_toArray, List.set_cons_zero, List.set_cons_succ]) | (apply can1; (· rfl); (· (go_simp; done)); (· (first | (go_simp; with_reducible rfl) | (go_simp; done))); simp only [Act.put, List.setIfInBounds_toArray, List.set_cons_zero, List.set_cons_succ]) | (apply canN; (· rfl); (· (go_simp; done)); simp only [Act.put, List.setIfInBounds_toArray, List.set_cons_zero, List.set_cons_succ]) | (apply canN1; (· rfl); (· (go_simp; done)); simp only [Act.put, List.setIfInBounds_toArray, List.set_cons_zero, List.set_cons_succ])))
    refine canW rfl [] rfl (fun K hK => ?_)
    go_simp
    go_at_call 33
    refine (rsame_any v2 ⟨rd, rv, rn, rb⟩ ⟨rd, rv, rn, rb⟩ (.slice az rb.length cz) (.slice az2 rb.length cz2) HZ.out HZ2.out).mono ?_
    rw [show decide ((⟨rd, rv, rn, rb⟩ : Pk) = ⟨rd, rv, rn, rb⟩) = true from decide_eq_true rfl]
    rintro e v3 ⟨rfl, hck⟩
    clear s0 s1 s2 s3 t0 t1 t2 t3
    replace HC : Hid (Chg w v3 nob) := Lib.hid (HC.out.trans hck (fun _ _ h => h))
    replace HP := Lib.hid (HP.out.kept hck id)
    replace HQ := Lib.hid (HQ.out.kept hck id)
    clear hck HZ HZ2 HU HV
    have q0 := HP.out.cell 0
    have q1 := HP.out.cell 1
    have q2 := HP.out.cell 2
    have q3 := HP.out.cell 3
    have r0 := HQ.out.cell 0
    have r1 := HQ.out.cell 1
    have r2 := HQ.out.cell 2
    have r3 := HQ.out.cell 3
    simp only [List.getElem?_toArray, List.getElem?_cons_zero, List.getElem?_cons_succ] at q0 q1 q2 q3 r0 r1 r2 r3
    (refine hK _ _ (fun u hu => by cases hu) ?_; clear hK K; try simp only [Act.put, List.setIfInBounds_toArray, List.set_cons_zero, List.set_cons_succ])
    (repeat (first | (apply can0; (· rfl); (· rfl); (· (intro w'; first | (go_simp; with_reducible rfl) | (go_simp; done))); simp only [Act.put, List.setIfInBounds_toArray, List.set_cons_zero, List.set_cons_succ]) | (apply can1; (· rfl); (· rfl); (· (first | (go_simp; with_reducible rfl) | (go_simp; done))); simp only [Act.put, List.setIfInBounds_toArray, List.set_cons_zero, List.set_cons_succ]) | (apply canN; (· rfl); (· rfl); simp only [Act.put, List.setIfInBounds_toArray, List.set_cons_zero, List.set_cons_succ]) | (apply canN1; (· rfl); (· rfl); simp only [Act.put, List.setIfInBounds_toArray, List.set_cons_zero, List.set_cons_succ]) | (apply can0; (· rfl); (· (go_simp; done)); (· (intro w'; first | (go_simp; with_reducible rfl) | (go_simp; done))); simp only [Act.put, List.setIfInBounds_toArray, List.set_cons_zero, List.set_cons_succ]) | (apply can1; (· rfl); (· (go_simp; done)); (· (first | (go_simp; with_reducible rfl) | (go_simp; done))); simp only [Act.put, List.setIfInBounds_toArray, List.set_cons_zero, List.set_cons_succ]) | (apply canN; (· rfl); (· (go_simp; done)); simp only [Act.put, List.setIfInBounds_toArray, List.set_cons_zero, List.set_cons_succ]) | (apply canN1; (· rfl); (· (go_simp; done)); simp only [Act.put, List.setIfInBounds_toArray, List.set_cons_zero, List.set_cons_succ])))
    obtain ⟨bm, hbm⟩ : ∃ b, decide (Pk.May ⟨pd1, pv1, pn1, pb1⟩) = b := ⟨_, rfl⟩
    have HBM := Lib.hid hbm
    clear hbm
    refine canW rfl [25] rfl (fun K hK => ?_)
    go_simp
    go_at_call 34
    refine (may_any v3 ⟨pd1, pv1, pn1, pb1⟩ (.slice pa1 pb1.length pc1) (KP.out.kept HC.out)).mono ?_
    rw [HBM.out]
    rintro e v4 ⟨rfl, hck⟩
    clear q0 q1 q2 q3 r0 r1 r2 r3
    replace HC : Hid (Chg w v4 nob) := Lib.hid (HC.out.trans hck (fun _ _ h => h))
    replace HP := Lib.hid (HP.out.kept hck id)
    replace HQ := Lib.hid (HQ.out.kept hck id)
    clear hck
    have q0 := HP.out.cell 0
    have q1 := HP.out.cell 1
    have q2 := HP.out.cell 2
    have q3 := HP.out.cell 3
    have r0 := HQ.out.cell 0
    have r1 := HQ.out.cell 1
    have r2 := HQ.out.cell 2
    have r3 := HQ.out.cell 3
    simp only [List.getElem?_toArray, List.getElem?_cons_zero, List.getElem?_cons_succ] at q0 q1 q2 q3 r0 r1 r2 r3
    (refine hK _ _ (fun u hu => by (simp only [List.mem_cons, List.not_mem_nil, or_false] at hu); (first | (subst hu; exact reRun_mk rfl (by first | (go_simp; with_reducible rfl) | (go_simp; done)) (holds_at rfl)) | ((repeat' (first | (rcases hu with rfl | hu) | (subst hu))) <;> exact reRun_mk rfl (by first | (go_simp; with_reducible rfl) | (go_simp; done)) (holds_at rfl)))) ?_; clear hK K; try simp only [Act.put, List.setIfInBounds_toArray, List.set_cons_zero, List.set_cons_succ])
    (repeat (first | (apply can0; (· rfl); (· rfl); (· (intro w'; first | (go_simp; with_reducible rfl) | (go_simp; done))); simp only [Act.put, List.setIfInBounds_toArray, List.set_cons_zero, List.set_cons_succ]) | (apply can1; (· rfl); (· rfl); (· (first | (go_simp; with_reducible rfl) | (go_simp; done))); simp only [Act.put, List.setIfInBounds_toArray, List.set_cons_zero, List.set_cons_succ]) | (apply canN; (· rfl); (· rfl); simp only [Act.put, List.setIfInBounds_toArray, List.set_cons_zero, List.set_cons_succ]) | (apply canN1; (· rfl); (· rfl); simp only [Act.put, List.setIfInBounds_toArray, List.set_cons_zero, List.set_cons_succ]) | (apply can0; (· rfl); (· (go_simp; done)); (· (intro w'; first | (go_simp; with_reducible rfl) | (go_simp; done))); simp only [Act.put, List.setIfInBounds_toArray, List.set_cons_zero, List.set_cons_succ]) | (apply can1; (· rfl); (· (go_simp; done)); (· (first | (go_simp; with_reducible rfl) | (go_simp; done))); simp only [Act.put, List.setIfInBounds_toArray, List.set_cons_zero, List.set_cons_succ]) | (apply canN; (· rfl); (· (go_simp; done)); simp only [Act.put, List.setIfInBounds_toArray, List.set_cons_zero, List.set_cons_succ]) | (apply canN1; (· rfl); (· (go_simp; done)); simp only [Act.put, List.setIfInBounds_toArray, List.set_cons_zero, List.set_cons_succ])))
    refine canW rfl [] rfl (fun K hK => ?_)
    go_simp
    go_at_call 30
    refine (plain_any v4 ⟨pd1, pv1, pn1, pb1⟩ (.slice pa1 pb1.length pc1) (KP.out.kept HC.out)).mono ?_
    rintro e v5 ⟨rfl, hck⟩
    clear q0 q1 q2 q3 r0 r1 r2 r3
    replace HC : Hid (Chg w v5 nob) := Lib.hid (HC.out.trans hck (fun _ _ h => h))
    replace HP := Lib.hid (HP.out.kept hck id)
    replace HQ := Lib.hid (HQ.out.kept hck id)
    clear hck
    have q0 := HP.out.cell 0
    have q1 := HP.out.cell 1
    have q2 := HP.out.cell 2
    have q3 := HP.out.cell 3
    have r0 := HQ.out.cell 0
    have r1 := HQ.out.cell 1
    have r2 := HQ.out.cell 2
    have r3 := HQ.out.cell 3
    simp only [List.getElem?_toArray, List.getElem?_cons_zero, List.getElem?_cons_succ] at q0 q1 q2 q3 r0 r1 r2 r3
    (refine hK _ _ (fun u hu => by cases hu) ?_; clear hK K; try simp only [Act.put, List.setIfInBounds_toArray, List.set_cons_zero, List.set_cons_succ])
    (repeat (first | (apply can0; (· rfl); (· rfl); (· (intro w'; first | (go_simp; with_reducible rfl) | (go_simp; done))); simp only [Act.put, List.setIfInBounds_toArray, List.set_cons_zero, List.set_cons_succ]) | (apply can1; (· rfl); (· rfl); (· (first | (go_simp; with_reducible rfl) | (go_simp; done))); simp only [Act.put, List.setIfInBounds_toArray, List.set_cons_zero, List.set_cons_succ]) | (apply canN; (· rfl); (· rfl); simp only [Act.put, List.setIfInBounds_toArray, List.set_cons_zero, List.set_cons_succ]) | (apply canN1; (· rfl); (· rfl); simp only [Act.put, List.setIfInBounds_toArray, List.set_cons_zero, List.set_cons_succ]) | (apply can0; (· rfl); (· (go_simp; done)); (· (intro w'; first | (go_simp; with_reducible rfl) | (go_simp; done))); simp only [Act.put, List.setIfInBounds_toArray, List.set_cons_zero, List.set_cons_succ]) | (apply can1; (· rfl); (· (go_simp; done)); (· (first | (go_simp; with_reducible rfl) | (go_simp; done))); simp only [Act.put, List.setIfInBounds_toArray, List.set_cons_zero, List.set_cons_succ]) | (apply canN; (· rfl); (· (go_simp; done)); simp only [Act.put, List.setIfInBounds_toArray, List.set_cons_zero, List.set_cons_succ]) | (apply canN1; (· rfl); (· (go_simp; done)); simp only [Act.put, List.setIfInBounds_toArray, List.set_cons_zero, List.set_cons_succ])))
    refine canW rfl [] rfl (fun K hK => ?_)
    go_simp
    go_at_call 35
    refine (rmay_any v5 ⟨pd1, pv1, pn1, pb1⟩ (.slice pa1 pb1.length pc1) (KP.out.kept HC.out)).mono ?_
    rw [HBM.out]
    rintro e v6 ⟨rfl, hck⟩
    clear q0 q1 q2 q3 r0 r1 r2 r3
    replace HC : Hid (Chg w v6 nob) := Lib.hid (HC.out.trans hck (fun _ _ h => h))
    replace HP := Lib.hid (HP.out.kept hck id)
    replace HQ := Lib.hid (HQ.out.kept hck id)
    clear hck
    have q0 := HP.out.cell 0
    have q1 := HP.out.cell 1
    have q2 := HP.out.cell 2
    have q3 := HP.out.cell 3
    have r0 := HQ.out.cell 0
    have r1 := HQ.out.cell 1
    have r2 := HQ.out.cell 2
    have r3 := HQ.out.cell 3
    simp only [List.getElem?_toArray, List.getElem?_cons_zero, List.getElem?_cons_succ] at q0 q1 q2 q3 r0 r1 r2 r3
    (refine hK _ _ (fun u hu => by cases hu) ?_; clear hK K; try simp only [Act.put, List.setIfInBounds_toArray, List.set_cons_zero, List.set_cons_succ])
    have hbeq : (bm == bm) = true := by cases bm <;> rfl
    (repeat (first | (apply can0; (· rfl); (· rfl); (· (intro w'; first | (go_simp; with_reducible rfl) | (go_simp; done))); simp only [Act.put, List.setIfInBounds_toArray, List.set_cons_zero, List.set_cons_succ]) | (apply can1; (· rfl); (· rfl); (· (first | (go_simp; with_reducible rfl) | (go_simp; done))); simp only [Act.put, List.setIfInBounds_toArray, List.set_cons_zero, List.set_cons_succ]) | (apply canN; (· rfl); (· rfl); simp only [Act.put, List.setIfInBounds_toArray, List.set_cons_zero, List.set_cons_succ]) | (apply canN1; (· rfl); (· rfl); simp only [Act.put, List.setIfInBounds_toArray, List.set_cons_zero, List.set_cons_succ]) | (apply can0; (· rfl); (· (go_simp; done)); (· (intro w'; first | (go_simp; with_reducible rfl) | (go_simp; done))); simp only [Act.put, List.setIfInBounds_toArray, List.set_cons_zero, List.set_cons_succ]) | (apply can1; (· rfl); (· (go_simp; done)); (· (first | (go_simp; with_reducible rfl) | (go_simp; done))); simp only [Act.put, List.setIfInBounds_toArray, List.set_cons_zero, List.set_cons_succ]) | (apply canN; (· rfl); (· (go_simp; done)); simp only [Act.put, List.setIfInBounds_toArray, List.set_cons_zero, List.set_cons_succ]) | (apply canN1; (· rfl); (· (go_simp; done)); simp only [Act.put, List.setIfInBounds_toArray, List.set_cons_zero, List.set_cons_succ])))
    obtain ⟨bs, hbs⟩ : ∃ b, decide ((⟨pd1, pv1, pn1, pb1⟩ : Pk) = ⟨pd2, pv2, pn2, pb2⟩) = b := ⟨_, rfl⟩
    have HBS := Lib.hid hbs
    clear hbs
    have hbeq2 : (bs == bs) = true := by cases bs <;> rfl
    refine canW rfl [34, 36] rfl (fun K hK => ?_)
    go_simp
    go_at_call 36
    refine (same_any v6 ⟨pd1, pv1, pn1, pb1⟩ ⟨pd2, pv2, pn2, pb2⟩ (.slice pa1 pb1.length pc1) (.slice pa2 pb2.length pc2) (KP.out.kept HC.out) (KQ.out.kept HC.out)).mono ?_
    rw [HBS.out]
    rintro e v7 ⟨rfl, hck⟩
    clear q0 q1 q2 q3 r0 r1 r2 r3
    replace HC : Hid (Chg w v7 nob) := Lib.hid (HC.out.trans hck (fun _ _ h => h))
    replace HP := Lib.hid (HP.out.kept hck id)
    replace HQ := Lib.hid (HQ.out.kept hck id)
    clear hck
    have q0 := HP.out.cell 0
    have q1 := HP.out.cell 1
    have q2 := HP.out.cell 2
    have q3 := HP.out.cell 3
    have r0 := HQ.out.cell 0
    have r1 := HQ.out.cell 1
    have r2 := HQ.out.cell 2
    have r3 := HQ.out.cell 3
    simp only [List.getElem?_toArray, List.getElem?_cons_zero, List.getElem?_cons_succ] at q0 q1 q2 q3 r0 r1 r2 r3
    (refine hK _ _ (fun u hu => by (simp only [List.mem_cons, List.not_mem_nil, or_false] at hu); (first | (subst hu; exact reRun_mk rfl (by first | (go_simp; with_reducible rfl) | (go_simp; done)) (holds_at rfl)) | ((repeat' (first | (rcases hu with rfl | hu) | (subst hu))) <;> exact reRun_mk rfl (by first | (go_simp; with_reducible rfl) | (go_simp; done)) (holds_at rfl)))) ?_; clear hK K; try simp only [Act.put, List.setIfInBounds_toArray, List.set_cons_zero, List.set_cons_succ])
    (repeat (first | (apply can0; (· rfl); (· rfl); (· (intro w'; first | (go_simp; with_reducible rfl) | (go_simp; done))); simp only [Act.put, List.setIfInBounds_toArray, List.set_cons_zero, List.set_cons_succ]) | (apply can1; (· rfl); (· rfl); (· (first | (go_simp; with_reducible rfl) | (go_simp; done))); simp only [Act.put, List.setIfInBounds_toArray, List.set_cons_zero, List.set_cons_succ]) | (apply canN; (· rfl); (· rfl); simp only [Act.put, List.setIfInBounds_toArray, List.set_cons_zero, List.set_cons_succ]) | (apply canN1; (· rfl); (· rfl); simp only [Act.put, List.setIfInBounds_toArray, List.set_cons_zero, List.set_cons_succ]) | (apply can0; (· rfl); (· (go_simp; done)); (· (intro w'; first | (go_simp; with_reducible rfl) | (go_simp; done))); simp only [Act.put, List.setIfInBounds_toArray, List.set_cons_zero, List.set_cons_succ]) | (apply can1; (· rfl); (· (go_simp; done)); (· (first | (go_simp; with_reducible rfl) | (go_simp; done))); simp only [Act.put, List.setIfInBounds_toArray, List.set_cons_zero, List.set_cons_succ]) | (apply canN; (· rfl); (· (go_simp; done)); simp only [Act.put, List.setIfInBounds_toArray, List.set_cons_zero, List.set_cons_succ]) | (apply canN1; (· rfl); (· (go_simp; done)); simp only [Act.put, List.setIfInBounds_toArray, List.set_cons_zero, List.set_cons_succ])))
    refine canW rfl [36] rfl (fun K hK => ?_)
    go_simp
    go_at_call 30
    refine (plain_any v7 ⟨pd1, pv1, pn1, pb1⟩ (.slice pa1 pb1.length pc1) (KP.out.kept HC.out)).mono ?_
    rintro e v8 ⟨rfl, hck⟩
    clear q0 q1 q2 q3 r0 r1 r2 r3
    replace HC : Hid (Chg w v8 nob) := Lib.hid (HC.out.trans hck (fun _ _ h => h))
    replace HP := Lib.hid (HP.out.kept hck id)
    replace HQ := Lib.hid (HQ.out.kept hck id)
    clear hck
    have q0 := HP.out.cell 0
    have q1 := HP.out.cell 1
    have q2 := HP.out.cell 2
    have q3 := HP.out.cell 3
    have r0 := HQ.out.cell 0
    have r1 := HQ.out.cell 1
    have r2 := HQ.out.cell 2
    have r3 := HQ.out.cell 3
    simp only [List.getElem?_toArray, List.getElem?_cons_zero, List.getElem?_cons_succ] at q0 q1 q2 q3 r0 r1 r2 r3
    (refine hK _ _ (fun u hu => by (simp only [List.mem_cons, List.not_mem_nil, or_false] at hu); (first | (subst hu; exact reRun_mk rfl (by first | (go_simp; with_reducible rfl) | (go_simp; done)) (holds_at rfl)) | ((repeat' (first | (rcases hu with rfl | hu) | (subst hu))) <;> exact reRun_mk rfl (by first | (go_simp; with_reducible rfl) | (go_simp; done)) (holds_at rfl)))) ?_; clear hK K; try simp only [Act.put, List.setIfInBounds_toArray, List.set_cons_zero, List.set_cons_succ])
    (repeat (first | (apply can0; (· rfl); (· rfl); (· (intro w'; first | (go_simp; with_reducible rfl) | (go_simp; done))); simp only [Act.put, List.setIfInBounds_toArray, List.set_cons_zero, List.set_cons_succ]) | (apply can1; (· rfl); (· rfl); (· (first | (go_simp; with_reducible rfl) | (go_simp; done))); simp only [Act.put, List.setIfInBounds_toArray, List.set_cons_zero, List.set_cons_succ]) | (apply canN; (· rfl); (· rfl); simp only [Act.put, List.setIfInBounds_toArray, List.set_cons_zero, List.set_cons_succ]) | (apply canN1; (· rfl); (· rfl); simp only [Act.put, List.setIfInBounds_toArray, List.set_cons_zero, List.set_cons_succ]) | (apply can0; (· rfl); (· (go_simp; done)); (· (intro w'; first | (go_simp; with_reducible rfl) | (go_simp; done))); simp only [Act.put, List.setIfInBounds_toArray, List.set_cons_zero, List.set_cons_succ]) | (apply can1; (· rfl); (· (go_simp; done)); (· (first | (go_simp; with_reducible rfl) | (go_simp; done))); simp only [Act.put, List.setIfInBounds_toArray, List.set_cons_zero, List.set_cons_succ]) | (apply canN; (· rfl); (· (go_simp; done)); simp only [Act.put, List.setIfInBounds_toArray, List.set_cons_zero, List.set_cons_succ]) | (apply canN1; (· rfl); (· (go_simp; done)); simp only [Act.put, List.setIfInBounds_toArray, List.set_cons_zero, List.set_cons_succ])))
    refine canW rfl [] rfl (fun K hK => ?_)
    go_simp
    go_at_call 30
    refine (plain_any v8 ⟨pd2, pv2, pn2, pb2⟩ (.slice pa2 pb2.length pc2) (KQ.out.kept HC.out)).mono ?_
    rintro e v9 ⟨rfl, hck⟩
    clear q0 q1 q2 q3 r0 r1 r2 r3
    replace HC : Hid (Chg w v9 nob) := Lib.hid (HC.out.trans hck (fun _ _ h => h))
    replace HP := Lib.hid (HP.out.kept hck id)
    replace HQ := Lib.hid (HQ.out.kept hck id)
    clear hck
    (refine hK _ _ (fun u hu => by cases hu) ?_; clear hK K; try simp only [Act.put, List.setIfInBounds_toArray, List.set_cons_zero, List.set_cons_succ])
    (repeat (first | (apply can0; (· rfl); (· rfl); (· (intro w'; first | (go_simp; with_reducible rfl) | (go_simp; done))); simp only [Act.put, List.setIfInBounds_toArray, List.set_cons_zero, List.set_cons_succ]) | (apply can1; (· rfl); (· rfl); (· (first | (go_simp; with_reducible rfl) | (go_simp; done))); simp only [Act.put, List.setIfInBounds_toArray, List.set_cons_zero, List.set_cons_succ]) | (apply canN; (· rfl); (· rfl); simp only [Act.put, List.setIfInBounds_toArray, List.set_cons_zero, List.set_cons_succ]) | (apply canN1; (· rfl); (· rfl); simp only [Act.put, List.setIfInBounds_toArray, List.set_cons_zero, List.set_cons_succ]) | (apply can0; (· rfl); (· (go_simp; done)); (· (intro w'; first | (go_simp; with_reducible rfl) | (go_simp; done))); simp only [Act.put, List.setIfInBounds_toArray, List.set_cons_zero, List.set_cons_succ]) | (apply can1; (· rfl); (· (go_simp; done)); (· (first | (go_simp; with_reducible rfl) | (go_simp; done))); simp only [Act.put, List.setIfInBounds_toArray, List.set_cons_zero, List.set_cons_succ]) | (apply canN; (· rfl); (· (go_simp; done)); simp only [Act.put, List.setIfInBounds_toArray, List.set_cons_zero, List.set_cons_succ]) | (apply canN1; (· rfl); (· (go_simp; done)); simp only [Act.put, List.setIfInBounds_toArray, List.set_cons_zero, List.set_cons_succ])))
    refine canW rfl [] rfl (fun K hK => ?_)
    go_simp
    go_at_call 33
    refine (rsame_any v9 ⟨pd1, pv1, pn1, pb1⟩ ⟨pd2, pv2, pn2, pb2⟩ (.slice pa1 pb1.length pc1) (.slice pa2 pb2.length pc2) (KP.out.kept HC.out) (KQ.out.kept HC.out)).mono ?_
    rw [HBS.out]
    rintro e va ⟨rfl, hck⟩
    replace HC : Hid (Chg w va nob) := Lib.hid (HC.out.trans hck (fun _ _ h => h))
    replace HP := Lib.hid (HP.out.kept hck id)
    replace HQ := Lib.hid (HQ.out.kept hck id)
    clear hck
    (refine hK _ _ (fun u hu => by cases hu) ?_; clear hK K; try simp only [Act.put, List.setIfInBounds_toArray, List.set_cons_zero, List.set_cons_succ])
    (repeat (first | (apply can0; (· rfl); (· rfl); (· (intro w'; first | (go_simp; with_reducible rfl) | (go_simp; done))); simp only [Act.put, List.setIfInBounds_toArray, List.set_cons_zero, List.set_cons_succ]) | (apply can1; (· rfl); (· rfl); (· (first | (go_simp; with_reducible rfl) | (go_simp; done))); simp only [Act.put, List.setIfInBounds_toArray, List.set_cons_zero, List.set_cons_succ]) | (apply canN; (· rfl); (· rfl); simp only [Act.put, List.setIfInBounds_toArray, List.set_cons_zero, List.set_cons_succ]) | (apply canN1; (· rfl); (· rfl); simp only [Act.put, List.setIfInBounds_toArray, List.set_cons_zero, List.set_cons_succ]) | (apply can0; (· rfl); (· (go_simp; done)); (· (intro w'; first | (go_simp; with_reducible rfl) | (go_simp; done))); simp only [Act.put, List.setIfInBounds_toArray, List.set_cons_zero, List.set_cons_succ]) | (apply can1; (· rfl); (· (go_simp; done)); (· (first | (go_simp; with_reducible rfl) | (go_simp; done))); simp only [Act.put, List.setIfInBounds_toArray, List.set_cons_zero, List.set_cons_succ]) | (apply canN; (· rfl); (· (go_simp; done)); simp only [Act.put, List.setIfInBounds_toArray, List.set_cons_zero, List.set_cons_succ]) | (apply canN1; (· rfl); (· (go_simp; done)); simp only [Act.put, List.setIfInBounds_toArray, List.set_cons_zero, List.set_cons_succ])))
    refine canE ?_
    go_wp2
    go_ret
    exact ⟨rfl, HC.out⟩
  · have hin2 : Hid (¬ inTells l0.length pb1.length pb2.length l3.length) := Lib.hid hin
    clear hin
    go_enter Tryd.func7, Tryd.ntmps7
    go_wp2_with fail
    go_at_call 23
    obtain ⟨w1, hw1⟩ : ∃ W, w.alloc (.cells #[.int .i64 pd1, .int .i64 pv1, .int .u64 pn1, .slice pa1 pb1.length pc1] 43) = W := ⟨_, rfl⟩
    have hp1 : Blk w1 w.heap.size 43 #[.int .i64 pd1, .int .i64 pv1, .int .u64 pn1, .slice pa1 pb1.length pc1] := by rw [← hw1]; exact Blk.new w _ _
    have hc1 : Chg w w1 nob := by rw [← hw1]; exact (Chg.refl w nob).alloc _
    have hs1 : w1.heap.size = w.heap.size + 1 := by rw [← hw1, size_al]
    rw [hw1, ← hs1]
    obtain ⟨w2, hw2⟩ : ∃ W, w1.alloc (.cells #[.int .i64 pd2, .int .i64 pv2, .int .u64 pn2, .slice pa2 pb2.length pc2] 43) = W := ⟨_, rfl⟩
    have HQ : Hid (Blk w2 w1.heap.size 43 #[.int .i64 pd2, .int .i64 pv2, .int .u64 pn2, .slice pa2 pb2.length pc2]) := Lib.hid (by rw [← hw2]; exact Blk.new w1 _ _)
    have hc2 : Chg w1 w2 nob := by rw [← hw2]; exact (Chg.refl w1 nob).alloc _
    rw [hw2]
    have HP := Lib.hid (hp1.kept hc2 id)
    have HC : Hid (Chg w w2 nob) := Lib.hid (hc1.trans hc2 (fun _ _ h => h))
    clear hw1 hw2 hp1 hc1 hc2 hs1
    refine (first25_any w2 (HT.out.kept HC.out id)).mono ?_
    rintro e u1 ⟨rfl, hck⟩
    replace HC : Hid (Chg w u1 nob) := Lib.hid (HC.out.trans hck (fun _ _ h => h))
    replace HP := Lib.hid (HP.out.kept hck id)
    replace HQ := Lib.hid (HQ.out.kept hck id)
    clear hck
    have q0 := HP.out.cell 0
    have q1 := HP.out.cell 1
    have q2 := HP.out.cell 2
    have q3 := HP.out.cell 3
    have r0 := HQ.out.cell 0
    have r1 := HQ.out.cell 1
    have r2 := HQ.out.cell 2
    have r3 := HQ.out.cell 3
    simp only [List.getElem?_toArray, List.getElem?_cons_zero, List.getElem?_cons_succ] at q0 q1 q2 q3 r0 r1 r2 r3
    go_wp2_with fail
    all_goals first
      | (exfalso; exact hin2.out ⟨by omega, by omega, by omega, by omega⟩)
      | (go_at_call 23
         refine (first25_any u1 (HT.out.kept HC.out id)).mono ?_
         rintro e x ⟨rfl, hx⟩
         have HX := Lib.hid hx
         clear hx
         go_wp2
         go_ret
         exact ⟨rfl, HC.out.trans HX.out (fun _ _ h => h)⟩)
end Go.Proofs.YtajcefdbljbmdaaDoor
