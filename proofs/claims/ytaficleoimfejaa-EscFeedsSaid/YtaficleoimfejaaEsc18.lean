/-
  Chapter 8: esc.Same of two that are alike.
-/
import Derived.Test.YtaficleoimfejaaEsc17
namespace Go.Proofs.Ytaficleoimfejaa
open Go.RowKit
set_option linter.unusedVariables false
set_option linter.unusedSimpArgs false


set_option maxRecDepth 100000 in
set_option maxHeartbeats 8000000 in
theorem func_same (w : World) (va vb : Value) (l : List Ev) (D E : Nat → Prop) (ha : EVS w va l D) (hb : EVS w vb l E) (hl : l.length ≤ 1000000) (hp : ∀ ev ∈ l, ev.ps.length ≤ 1000000) :
    Calls Try.prog 19 #[va, vb, .func (.func 20) #[] #[]] w fun e w' => e = .returned (.bool true) ∧ Chg w w' nob := by
  obtain ⟨ao1, cap1, rfl, hcap1, hmax1⟩ := ha.len
  obtain ⟨ao2, cap2, rfl, hcap2, hmax2⟩ := hb.len
  have HA := Lib.hid ha
  have HB := Lib.hid hb
  have HP := Lib.hid hp
  clear ha hb hp
  go_enter Try.func19, Try.ntmps19
  go_wp2
  go_loopw [17] (fun i wr => ∃ k : Nat, k ≤ l.length ∧ i = .int .i64 k ∧ Chg w wr nob) (fun i _ => l.length - (intOf i).toNat)
  case atStart => exact ⟨0, Nat.zero_le _, rfl, Chg.refl _ _⟩
  case round =>
    obtain ⟨k, hk, rfl, hch⟩ := hrel
    have HC := Lib.hid hch
    clear hch
    by_cases hkl : k < l.length
    · have hkn : (k : Int) < (l.length : Int) := by omega
      have hk0 : (0 : Int) ≤ (k : Int) := by omega
      obtain ⟨ev, hev⟩ : ∃ ev, l[k]? = some ev := ⟨l[k], List.getElem?_eq_getElem hkl⟩
      have hpe := HP.out ev (List.mem_of_getElem? hev)
      have hA := HA.out.kept HC.out (fun _ _ => id)
      have hB := HB.out.kept HC.out (fun _ _ => id)
      obtain ⟨g1, d1, pv1, hv1, _, _, hr1, _, hcell1⟩ := hA.at hev
      cases hv1
      obtain ⟨g2, d2, pv2, hv2, _, _, hr2, _, hcell2⟩ := hB.at hev
      cases hv2
      obtain ⟨pa1, pc1, rfl, _, _⟩ := hr1.form
      obtain ⟨pa2, pc2, rfl, _, _⟩ := hr2.form
      have HR1 := Lib.hid hr1
      have HR2 := Lib.hid hr2
      obtain ⟨ek, er, ps, epr, eit, efi, etx⟩ := ev
      have s0 := hcell1 0 (by omega)
      have s1 := hcell1 1 (by omega)
      have s2 := hcell1 2 (by omega)
      have s3 := hcell1 3 (by omega)
      have s4 := hcell1 4 (by omega)
      have s5 := hcell1 5 (by omega)
      have s6 := hcell1 6 (by omega)
      have t0 := hcell2 0 (by omega)
      have t1 := hcell2 1 (by omega)
      have t2 := hcell2 2 (by omega)
      have t3 := hcell2 3 (by omega)
      have t4 := hcell2 4 (by omega)
      have t5 := hcell2 5 (by omega)
      have t6 := hcell2 6 (by omega)
      simp only [evc, List.getElem?_cons_zero, List.getElem?_cons_succ, Nat.add_zero] at s0 s1 s2 s3 s4 s5 s6 t0 t1 t2 t3 t4 t5 t6
      simp only at hpe
      clear hA hB hr1 hr2 hcell1 hcell2 hev
      go_upto_region 6 with (fail)
      obtain ⟨w5, hw5⟩ : ∃ w5, wr.alloc (.cells #[.int .i64 ek, .int .i32 er, .slice pa1 ps.length pc1, .int .i32 epr, .int .i32 eit, .int .i32 efi, .string etx] 41) = w5 := ⟨_, rfl⟩
      rw [hw5]
      have hb5 : Blk w5 wr.heap.size 41 #[.int .i64 ek, .int .i32 er, .slice pa1 ps.length pc1, .int .i32 epr, .int .i32 eit, .int .i32 efi, .string etx] := by rw [← hw5]; exact Blk.new wr _ _
      have hc5 : Chg wr w5 nob := by rw [← hw5]; exact (Chg.refl wr nob).alloc _
      have t0 := hc5.cell t0 id
      have t1 := hc5.cell t1 id
      have t2 := hc5.cell t2 id
      have t3 := hc5.cell t3 id
      have t4 := hc5.cell t4 id
      have t5 := hc5.cell t5 id
      have t6 := hc5.cell t6 id
      have HB5 := Lib.hid hb5
      have HC5 := Lib.hid hc5
      clear hb5 hc5 hw5 s0 s1 s2 s3 s4 s5 s6
      go_upto_region 7 with (fail)
      obtain ⟨w6, hw6⟩ : ∃ w6, w5.alloc (.cells #[.int .i64 ek, .int .i32 er, .slice pa2 ps.length pc2, .int .i32 epr, .int .i32 eit, .int .i32 efi, .string etx] 41) = w6 := ⟨_, rfl⟩
      rw [hw6]
      have hb6 : Blk w6 w5.heap.size 41 #[.int .i64 ek, .int .i32 er, .slice pa2 ps.length pc2, .int .i32 epr, .int .i32 eit, .int .i32 efi, .string etx] := by rw [← hw6]; exact Blk.new w5 _ _
      have hc6 : Chg w5 w6 nob := by rw [← hw6]; exact (Chg.refl w5 nob).alloc _
      have HB7 := Lib.hid (HB5.out.kept hc6 id)
      have HB6 := Lib.hid hb6
      have HC6 := Lib.hid (HC5.out.trans hc6 (fun _ _ h => h))
      clear hb6 hc6 hw6 t0 t1 t2 t3 t4 t5 t6 HB5
      have u0 := HB7.out.cell 0
      have u1 := HB7.out.cell 1
      have u2 := HB7.out.cell 2
      have u3 := HB7.out.cell 3
      have u4 := HB7.out.cell 4
      have u5 := HB7.out.cell 5
      have u6 := HB7.out.cell 6
      simp only [List.getElem?_toArray, List.getElem?_cons_zero, List.getElem?_cons_succ] at u0 u1 u2 u3 u4 u5 u6
      have v0 := HB6.out.cell 0
      have v1 := HB6.out.cell 1
      have v2 := HB6.out.cell 2
      have v3 := HB6.out.cell 3
      have v4 := HB6.out.cell 4
      have v5 := HB6.out.cell 5
      have v6 := HB6.out.cell 6
      simp only [List.getElem?_toArray, List.getElem?_cons_zero, List.getElem?_cons_succ] at v0 v1 v2 v3 v4 v5 v6
      go_wp2_with fail
      go_at_call 20
      refine (same_same w6 ⟨ek, er, ps, epr, eit, efi, etx⟩ pa1 pa2 ps.length ps.length pc1 pc2 (HR1.out.kept HC6.out (fun _ _ => id)) (HR2.out.kept HC6.out (fun _ _ => id)) (by simp; omega)).mono ?_
      rintro e w7 ⟨rfl, hc7⟩
      have HC7 := Lib.hid ((HC.out.trans HC6.out (fun _ _ h => h)).trans hc7 (fun _ _ h => h))
      clear hc7 u0 u1 u2 u3 u4 u5 u6 v0 v1 v2 v3 v4 v5 v6
      go_wp2
      go_roundw
      case rel => exact ⟨k + 1, by omega, by go_num, HC7.out⟩
      case measure => simp [intOf]; omega
    · obtain rfl : k = l.length := by omega
      go_wp2
      go_ret
      exact ⟨rfl, HC.out⟩
set_option maxHeartbeats 1000000 in
theorem evs_same (w : World) (va vb : Value) (l : List Ev) (D E : Nat → Prop) (ha : EVS w va l D) (hb : EVS w vb l E) (hl : l.length ≤ 1000000) (hp : ∀ ev ∈ l, ev.ps.length ≤ 1000000) :
    Calls Try.prog 16 #[va, vb] w fun e w' => e = .returned (.bool true) ∧ Chg w w' nob := by
  have HA := Lib.hid ha
  have HB := Lib.hid hb
  have HP := Lib.hid hp
  clear ha hb hp
  go_enter Try.func16, Try.ntmps16
  go_wp2_with fail
  go_at_call 19
  refine (func_same _ _ _ l D E HA.out HB.out hl HP.out).mono ?_
  rintro e w1 ⟨rfl, h1⟩
  have H1 := Lib.hid h1
  clear h1
  go_wp2
  go_ret
  exact ⟨rfl, H1.out⟩
end Go.Proofs.Ytaficleoimfejaa
