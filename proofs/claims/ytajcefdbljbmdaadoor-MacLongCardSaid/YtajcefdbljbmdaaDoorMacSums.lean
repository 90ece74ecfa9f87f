/-
  MacSums: both texts tell the same sums and tags.
-/
import Derived.Test.YtajcefdbljbmdaaDoorMr5
import Derived.Test.YtajcefdbljbmdaaDoorFirst4
namespace Go.Proofs.YtajcefdbljbmdaaDoor
open Go.RowKit
set_option linter.unusedVariables false
set_option linter.unusedSimpArgs false

theorem bytes_same (w : World) (va vb : Value) (L : List Int) (ha : Rd w 1 va L.length (bytesV L)) (hb : Rd w 1 vb L.length (bytesV L)) (hL : ∀ x ∈ L, 0 ≤ x ∧ x ≤ 255) :
    Calls Tryd.prog 18 #[va, vb] w fun e w' => e = .returned (.bool true) ∧ w = w' := by
  have h := bytes_eq w va vb L L ha hb hL hL
  rw [show decide (L = L) = true from decide_eq_true rfl] at h
  exact h.mono fun e w' ⟨h1, h2⟩ => ⟨h1, h2.symm⟩
theorem sum3_byte (l : List Int) : ∀ x ∈ sumL l, 0 ≤ x ∧ x ≤ 255 := sumL_byte l
theorem hm3_byte (k l : List Int) : ∀ x ∈ hmacL k l, 0 ≤ x ∧ x ≤ 255 := sumL_byte _
theorem tg3_byte (k l : List Int) : ∀ x ∈ tagL k l, 0 ≤ x ∧ x ≤ 255 := fun x hx => hm3_byte k l x (List.mem_of_mem_take hx)
def inSums (n m k : Nat) : Prop := n ≤ 3000 ∧ m ≤ 3000 ∧ k ≤ 3000
set_option maxRecDepth 100000 in
set_option maxHeartbeats 4000000 in
theorem MacSums_walk (a0 : Option Addr) (len0 cap0 : Nat) (a1 : Option Addr) (len1 cap1 : Nat) (a2 : Option Addr) (len2 cap2 : Nat) (w : World) (l0 l1 l2 : List Int)
    (hr0 : Rd w 1 (.slice a0 len0 cap0) len0 (l0.map (Value.int .u8))) (hr1 : Rd w 1 (.slice a1 len1 cap1) len1 (l1.map (Value.int .u8))) (hr2 : Rd w 1 (.slice a2 len2 cap2) len2 (l2.map (Value.int .u8))) (hl0 : l0.length = len0) (hl1 : l1.length = len1) (hl2 : l2.length = len2) (y0 : len0 * 1 ≤ 140737488351232) (y1 : len1 * 1 ≤ 140737488351232) (y2 : len2 * 1 ≤ 140737488351232)
    (w0 : ∀ x ∈ l0, 0 ≤ x ∧ x ≤ 255) (w1 : ∀ x ∈ l1, 0 ≤ x ∧ x ≤ 255) (w2 : ∀ x ∈ l2, 0 ≤ x ∧ x ≤ 255) (nk0 : NilOk (.slice a0 len0 cap0)) (nk1 : NilOk (.slice a1 len1 cap1)) (nk2 : NilOk (.slice a2 len2 cap2)) (ht : Tab w) :
    Calls Tryd.prog 4 #[.slice a0 len0 cap0, .slice a1 len1 cap1, .slice a2 len2 cap2] w fun e w' => e = .returned (.bool true) ∧ Chg w w' nob := by
  subst hl0 hl1 hl2
  have HR0 : Hid (Rd w 1 (.slice a0 l0.length cap0) l0.length (bytesV l0)) := Lib.hid hr0
  have HR1 : Hid (Rd w 1 (.slice a1 l1.length cap1) l1.length (bytesV l1)) := Lib.hid hr1
  have HR2 : Hid (Rd w 1 (.slice a2 l2.length cap2) l2.length (bytesV l2)) := Lib.hid hr2
  have HN0 := Lib.hid nk0
  have HN1 := Lib.hid nk1
  have HN2 := Lib.hid nk2
  have HB0 := Lib.hid w0
  have HB1 := Lib.hid w1
  have HB2 := Lib.hid w2
  have HT := Lib.hid ht
  have i0 : (0 : Int) ≤ (l0.length : Int) := by omega
  have i1 : (0 : Int) ≤ (l1.length : Int) := by omega
  have i2 : (0 : Int) ≤ (l2.length : Int) := by omega
  clear hr0 hr1 hr2 nk0 nk1 nk2 w0 w1 w2 ht
  by_cases hin : inSums l0.length l1.length l2.length
  · obtain ⟨h1, h2, h3⟩ := hin
    have j0 : (l0.length : Int) ≤ 3000 := by omega
    have j1 : (l1.length : Int) ≤ 3000 := by omega
    have j2 : (l2.length : Int) ≤ 3000 := by omega
    go_enter Tryd.func4, Tryd.ntmps4
    go_wp2_with fail
    go_at_call 13
    refine (first4_any w HT.out).mono ?_
    rintro e u1 ⟨rfl, hu1⟩
    have HU1 := Lib.hid hu1
    clear hu1
    go_wp2_with fail
    go_at_call 16
    refine (copy_any u1 _ l1 (HR1.out.kept HU1.out (fun _ _ => id)) HN1.out (by omega)).mono ?_
    rintro e u2 ⟨t2, rfl, ho2, hc2, hf2⟩
    have HX2 : Hid (Bx w u2 t2 l1) := Lib.hid ⟨ho2, HU1.out.trans hc2 (fun _ _ h => h), fun k hk => Nat.le_trans HU1.out.size (hf2 k hk)⟩
    clear ho2 hc2 hf2
    go_wp2_with (at_builtin; refine wpList_bxr rfl (.tmp 25) (.tmp 26) rfl t2 l1 rfl HX2.out _ l2 rfl (HR2.out.kept HX2.out.2.1 (fun _ _ => id)) HN2.out (by omega) ?_)
    intro t3 u3 hb3 _
    have HX3 := Lib.hid hb3
    clear hb3 HX2
    go_wp2_with fail
    go_at_call 13
    refine (first4_any u3 (HT.out.kept HX3.out.2.1 id)).mono ?_
    rintro e u4 ⟨rfl, hu4⟩
    have HC4 : Hid (Chg w u4 nob) := Lib.hid (HX3.out.2.1.trans hu4 (fun _ _ h => h))
    have HZ := Lib.hid (HX3.out.1.rd.kept hu4 (fun _ _ => id))
    have HZN := Lib.hid HX3.out.nilOk
    have HZB : Hid (∀ x ∈ l1 ++ l2, 0 ≤ x ∧ x ≤ 255) := Lib.hid (fun x hx => by
      rcases List.mem_append.1 hx with h | h
      · exact HB1.out x h
      · exact HB2.out x h)
    clear hu4 HX3
    go_wp2_with fail
    go_at_call 17
    refine (sum_any u4 _ l1 (HT.out.kept HC4.out id) (HR1.out.kept HC4.out (fun _ _ => id)) HN1.out HB1.out (by omega)).mono ?_
    rintro e u5 ⟨p5, rfl, hb⟩
    have HP5 := Lib.hid hb.1.rd
    have HC5 : Hid (Chg w u5 nob) := Lib.hid (HC4.out.trans hb.2.1 (fun _ _ h => h))
    replace HZ := Lib.hid (HZ.out.kept hb.2.1 (fun _ _ => id))
    clear hb
    go_wp2_with fail
    go_at_call 19
    refine (rsum_any u5 _ l1 (HR1.out.kept HC5.out (fun _ _ => id)) HN1.out HB1.out (by omega)).mono ?_
    rintro e u6 ⟨p6, rfl, hb⟩
    have HQ6 := Lib.hid (HP5.out.kept hb.2.1 (fun _ _ => id))
    have HP6 := Lib.hid hb.1.rd
    have HC6 : Hid (Chg w u6 nob) := Lib.hid (HC5.out.trans hb.2.1 (fun _ _ h => h))
    replace HZ := Lib.hid (HZ.out.kept hb.2.1 (fun _ _ => id))
    clear hb HP5
    go_wp2_with fail
    go_at_call 18
    refine (bytes_same u6 _ _ _ HQ6.out HP6.out (sum3_byte _)).mono ?_
    rintro e x ⟨rfl, rfl⟩
    have hps := Ps.two (w := u6) (T := 22) (HR1.out.kept HC6.out (fun _ _ => id)) HN1.out HB1.out (HR2.out.kept HC6.out (fun _ _ => id)) HN2.out HB2.out
    go_wp2_with fail
    go_at_call 14
    refine (hmac_any _ _ _ l0 [l1, l2] (HT.out.kept (HC6.out.alloc _) id) ((HR0.out.kept HC6.out (fun _ _ => id)).alloc _) HN0.out HB0.out (by omega) hps (by simp) (by simp) (by simp; omega)).mono ?_
    clear hps
    rw [show [l1, l2].flatten = l1 ++ l2 by simp]
    rintro e u7 ⟨pu7, rfl, hb⟩
    have hck : Chg u6 u7 nob := ((Chg.refl u6 nob).alloc _).trans hb.2.1 (fun _ _ h => h)
    have HPu7 := Lib.hid hb.1.rd
    have HCu7 : Hid (Chg w u7 nob) := Lib.hid (HC6.out.trans hck (fun _ _ h => h))
    replace HZ := Lib.hid (HZ.out.kept hck (fun _ _ => id))
    clear hb hck
    go_wp2_with fail
    go_at_call 20
    refine (rhmac_any u7 _ _ l0 (l1 ++ l2) (HR0.out.kept HCu7.out (fun _ _ => id)) HN0.out HB0.out (by omega) HZ.out HZN.out HZB.out (by rw [List.length_append]; omega)).mono ?_
    rintro e u8 ⟨pu8, rfl, hb⟩
    have HQu8 := Lib.hid (HPu7.out.kept hb.2.1 (fun _ _ => id))
    have HPu8 := Lib.hid hb.1.rd
    have HCu8 : Hid (Chg w u8 nob) := Lib.hid (HCu7.out.trans hb.2.1 (fun _ _ h => h))
    replace HZ := Lib.hid (HZ.out.kept hb.2.1 (fun _ _ => id))
    clear hb HPu7
    go_wp2_with fail
    go_at_call 18
    refine (bytes_same u8 _ _ _ HQu8.out HPu8.out (hm3_byte _ _)).mono ?_
    rintro e x ⟨rfl, rfl⟩
    have hps := Ps.two (w := u8) (T := 22) (HR1.out.kept HCu8.out (fun _ _ => id)) HN1.out HB1.out (HR2.out.kept HCu8.out (fun _ _ => id)) HN2.out HB2.out
    go_wp2_with fail
    go_at_call 21
    refine (tag_any _ _ _ l0 [l1, l2] (HT.out.kept (HCu8.out.alloc _) id) ((HR0.out.kept HCu8.out (fun _ _ => id)).alloc _) HN0.out HB0.out (by omega) hps (by simp) (by simp) (by simp; omega)).mono ?_
    clear hps
    rw [show [l1, l2].flatten = l1 ++ l2 by simp]
    rintro e u9 ⟨pu9, rfl, hb⟩
    have hck : Chg u8 u9 nob := ((Chg.refl u8 nob).alloc _).trans hb.2.1 (fun _ _ h => h)
    have HPu9 := Lib.hid hb.1.rd
    have HCu9 : Hid (Chg w u9 nob) := Lib.hid (HCu8.out.trans hck (fun _ _ h => h))
    replace HZ := Lib.hid (HZ.out.kept hck (fun _ _ => id))
    clear hb hck
    go_wp2_with fail
    go_at_call 22
    refine (rtag_any u9 _ _ l0 (l1 ++ l2) (HR0.out.kept HCu9.out (fun _ _ => id)) HN0.out HB0.out (by omega) HZ.out HZN.out HZB.out (by rw [List.length_append]; omega)).mono ?_
    rintro e v1 ⟨pv1, rfl, hb⟩
    have HQv1 := Lib.hid (HPu9.out.kept hb.2.1 (fun _ _ => id))
    have HPv1 := Lib.hid hb.1.rd
    have HCv1 : Hid (Chg w v1 nob) := Lib.hid (HCu9.out.trans hb.2.1 (fun _ _ h => h))
    replace HZ := Lib.hid (HZ.out.kept hb.2.1 (fun _ _ => id))
    clear hb HPu9
    go_wp2_with fail
    go_at_call 18
    refine (bytes_same v1 _ _ _ HQv1.out HPv1.out (tg3_byte _ _)).mono ?_
    rintro e x ⟨rfl, rfl⟩
    have hE := equal_any v1 _ _ l1 l2 (HR1.out.kept HCv1.out (fun _ _ => id)) (HR2.out.kept HCv1.out (fun _ _ => id)) HB1.out HB2.out
    have hE2 := bytes_eq v1 _ _ l1 l2 (HR1.out.kept HCv1.out (fun _ _ => id)) (HR2.out.kept HCv1.out (fun _ _ => id)) HB1.out HB2.out
    obtain ⟨bb, hbb⟩ : ∃ b, decide (l1 = l2) = b := ⟨_, rfl⟩
    rw [hbb] at hE hE2
    have HE := Lib.hid hE
    have HE2 := Lib.hid hE2
    clear hbb hE hE2
    go_wp2_with fail
    go_at_call 15
    refine HE.out.mono ?_
    rintro e v1' ⟨rfl, hv⟩
    subst hv
    go_wp2_with fail
    go_at_call 18
    refine HE2.out.mono ?_
    rintro e v2 ⟨rfl, rfl⟩
    cases bb <;> (go_wp2; go_ret; exact ⟨rfl, HCv1.out⟩)
  · have hin2 : Hid (¬ inSums l0.length l1.length l2.length) := Lib.hid hin
    clear hin
    go_enter Tryd.func4, Tryd.ntmps4
    go_wp2_with fail
    go_at_call 13
    refine (first4_any w HT.out).mono ?_
    rintro e u1 ⟨rfl, hu1⟩
    have HU1 := Lib.hid hu1
    clear hu1
    go_wp2_with fail
    all_goals first
      | (exfalso; exact hin2.out ⟨by omega, by omega, by omega⟩)
      | (go_at_call 13
         refine (first4_any u1 (HT.out.kept HU1.out id)).mono ?_
         rintro e x ⟨rfl, hx⟩
         have HX := Lib.hid hx
         clear hx
         go_wp2
         go_ret
         exact ⟨rfl, HU1.out.trans HX.out (fun _ _ h => h)⟩)
end Go.Proofs.YtajcefdbljbmdaaDoor
