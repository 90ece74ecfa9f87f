/-
  Chapter 8, the document's answer: SameEvents of two that are alike; Plain.
-/
import Derived.Test.YtaficleoimfejaaEsc31
import Derived.Deep.RegionHeld3
namespace Go.Proofs.Ytaficleoimfejaa
open Go.RowKit
set_option linter.unusedVariables false
set_option linter.unusedSimpArgs false


theorem Blk.at {w : World} {n : Nat} {t : TypeId} {cs : Array Value} (h : n = w.heap.size) : Blk (w.alloc (.cells cs t)) n t cs := by subst h; exact Blk.new w t cs
theorem Blk.dr {W : World} {n : Nat} {t : TypeId} {cs : Array Value} (h : Blk W n t cs) : Blk W.drew n t cs := h
/-- What may be read of an event of the document's. -/
theorem EVT.at {w : World} {v : Value} {l : List Ev} {P R : Nat → Prop} (h : EVT w v l P R) {j : Nat} {ev : Ev} (hj : l[j]? = some ev) : ∃ g cap pv, v = .slice (some ⟨g, 0, none⟩) l.length cap ∧ l.length ≤ cap ∧ cap ≤ 9223372036854775807 ∧ Rd w 1 pv ev.ps.length (intI ev.ps) ∧ (∀ k, blkOf pv k → P k) ∧
    (∀ i, i < 7 → w.cell? ⟨g, j * 7 + i, none⟩ = (evc (ev, pv))[i]?) := by
  obtain ⟨q, h1, h2, h3, h4⟩ := h
  have hq : q.length = l.length := by rw [← h1, List.length_map]
  have hjl : j < l.length := (List.getElem?_eq_some_iff.1 hj).1
  obtain ⟨ao, cap, rfl, hcap, hmax, hnone, hsome⟩ := h2.form
  cases ao with
  | none => have := (hnone rfl).1; omega
  | some a =>
    obtain ⟨g, rfl⟩ := hsome a rfl
    have hx : ∃ x, q[j]? = some x ∧ x.1 = ev := by
      have h := congrArg (fun (z : List Ev) => z[j]?) h1
      simp only [List.getElem?_map] at h
      rw [hj] at h
      cases hqj : q[j]? with
      | none => rw [hqj] at h; cases h
      | some x => rw [hqj] at h; exact ⟨x, rfl, by simpa using h⟩
    obtain ⟨x, hx, rfl⟩ := hx
    have hmem : x ∈ q := List.mem_of_getElem? hx
    refine ⟨g, cap, x.2, by rw [hq], by omega, hmax, (h3 x hmem).1, (h3 x hmem).2, fun i hi => ?_⟩
    rw [h2.cellAt (j * 7 + i) (by omega), flat_get q j i hi, hx]
    rfl
theorem EVT.len {w : World} {v : Value} {l : List Ev} {P R : Nat → Prop} (h : EVT w v l P R) : ∃ ao cap, v = .slice ao l.length cap ∧ l.length ≤ cap ∧ cap ≤ 9223372036854775807 := by
  obtain ⟨q, h1, h2, h3, h4⟩ := h
  obtain ⟨ao, cap, rfl, hcap, hmax, _⟩ := h2.form
  have hq : q.length = l.length := by rw [← h1, List.length_map]
  exact ⟨ao, cap, by rw [hq], by omega, hmax⟩
theorem EVT.kept {w w' : World} {v : Value} {l : List Ev} {P R F : Nat → Prop} (h : EVT w v l P R) (hc : Chg w w' F) (hP : ∀ k, P k → ¬ F k) (hR : ∀ k, R k → ¬ F k) : EVT w' v l P R := by
  obtain ⟨q, h1, h2, h3, h4⟩ := h
  exact ⟨q, h1, h2.kept hc (fun k hk => hR k (h4 k hk)), fun x hx => ⟨(h3 x hx).1.kept hc (fun k hk => hP k ((h3 x hx).2 k hk)), (h3 x hx).2⟩, h4⟩
set_option maxRecDepth 100000 in
set_option maxHeartbeats 8000000 in
theorem sameevents_any (w : World) (va vb : Value) (l : List Ev) (P1 R1 P2 R2 : Nat → Prop) (ha : EVT w va l P1 R1) (hb : EVT w vb l P2 R2) (hl : l.length ≤ 1000000) (hp : ∀ ev ∈ l, ev.ps.length ≤ 1000000) :
    Calls Try.prog 9 #[va, vb] w fun e w' => e = .returned (.bool true) ∧ Chg w w' nob := by
  obtain ⟨ao1, cap1, rfl, hcap1, hmax1⟩ := ha.len
  obtain ⟨ao2, cap2, rfl, hcap2, hmax2⟩ := hb.len
  have HA := Lib.hid ha
  have HB := Lib.hid hb
  have HP := Lib.hid hp
  clear ha hb hp
  go_enter Try.func9, Try.ntmps9
  go_wp2
  go_loopw [5] (fun i wr => ∃ k : Nat, k ≤ l.length ∧ i = .int .i64 k ∧ Chg w wr nob) (fun i _ => l.length - (intOf i).toNat)
  case atStart => exact ⟨0, Nat.zero_le _, rfl, Chg.refl _ _⟩
  case round =>
    obtain ⟨k, hk, rfl, hch⟩ := hrel
    have HC := Lib.hid hch
    clear hch
    by_cases hkl : k < l.length
    · have hkn : (k : Int) < (l.length : Int) := by omega
      have hk0 : (0 : Int) ≤ (k : Int) := by omega
      obtain ⟨ev, hev⟩ : ∃ ev, l[k]? = some ev := ⟨l[k], List.getElem?_eq_getElem hkl⟩
      have hpe := HP.out ev (List.mem_of_getElem? hev)
      have hA := HA.out.kept HC.out (fun _ _ => id) (fun _ _ => id)
      have hB := HB.out.kept HC.out (fun _ _ => id) (fun _ _ => id)
      obtain ⟨g1, d1, pv1, hv1, _, _, hr1, _, hcell1⟩ := hA.at hev
      cases hv1
      obtain ⟨g2, d2, pv2, hv2, _, _, hr2, _, hcell2⟩ := hB.at hev
      cases hv2
      obtain ⟨pa1, pc1, rfl, _, _⟩ := hr1.form
      obtain ⟨pa2, pc2, rfl, _, _⟩ := hr2.form
      have HR1 := Lib.hid hr1
      have HR2 := Lib.hid hr2
      obtain ⟨ek, er, ps, epr, eit, efi, etx⟩ := ev
      have s0 := hcell1 0 (by omega)
      have s1 := hcell1 1 (by omega)
      have s2 := hcell1 2 (by omega)
      have s3 := hcell1 3 (by omega)
      have s4 := hcell1 4 (by omega)
      have s5 := hcell1 5 (by omega)
      have s6 := hcell1 6 (by omega)
      have t0 := hcell2 0 (by omega)
      have t1 := hcell2 1 (by omega)
      have t2 := hcell2 2 (by omega)
      have t3 := hcell2 3 (by omega)
      have t4 := hcell2 4 (by omega)
      have t5 := hcell2 5 (by omega)
      have t6 := hcell2 6 (by omega)
      simp only [evc, List.getElem?_cons_zero, List.getElem?_cons_succ, Nat.add_zero] at s0 s1 s2 s3 s4 s5 s6 t0 t1 t2 t3 t4 t5 t6
      simp only at hpe
      clear hA hB hr1 hr2 hcell1 hcell2 hev
      go_upto_region 6 with (fail)
      go_cut [6, 7] (fun p q wx => ∃ bp bq : Nat, p = .pointer (some ⟨bp, 0, none⟩) ∧ q = .pointer (some ⟨bq, 0, none⟩) ∧ Hid (Chg wr wx nob) ∧ Hid (Blk wx bp 50 #[.int .i64 ek, .int .i32 er, .slice pa1 ps.length pc1, .int .i32 epr, .int .i32 eit, .int .i32 efi, .string etx]) ∧
        Hid (Blk wx bq 50 #[.int .i64 ek, .int .i32 er, .slice pa2 ps.length pc2, .int .i32 epr, .int .i32 eit, .int .i32 efi, .string etx]))
      case first =>
        have hkeep : ∀ w', Chg wr w' nob → (w'.cell? ⟨g1, k * 7, none⟩ = some (.int .i64 ek) ∧ w'.cell? ⟨g1, k * 7 + 1, none⟩ = some (.int .i32 er) ∧ w'.cell? ⟨g1, k * 7 + 2, none⟩ = some (.slice pa1 ps.length pc1) ∧ w'.cell? ⟨g1, k * 7 + 3, none⟩ = some (.int .i32 epr) ∧ w'.cell? ⟨g1, k * 7 + 4, none⟩ = some (.int .i32 eit) ∧ w'.cell? ⟨g1, k * 7 + 5, none⟩ = some (.int .i32 efi) ∧ w'.cell? ⟨g1, k * 7 + 6, none⟩ = some (.string etx) ∧
            w'.cell? ⟨g2, k * 7, none⟩ = some (.int .i64 ek) ∧ w'.cell? ⟨g2, k * 7 + 1, none⟩ = some (.int .i32 er) ∧ w'.cell? ⟨g2, k * 7 + 2, none⟩ = some (.slice pa2 ps.length pc2) ∧ w'.cell? ⟨g2, k * 7 + 3, none⟩ = some (.int .i32 epr) ∧ w'.cell? ⟨g2, k * 7 + 4, none⟩ = some (.int .i32 eit) ∧ w'.cell? ⟨g2, k * 7 + 5, none⟩ = some (.int .i32 efi) ∧ w'.cell? ⟨g2, k * 7 + 6, none⟩ = some (.string etx)) := fun w' h => ⟨h.cell s0 id, h.cell s1 id, h.cell s2 id, h.cell s3 id, h.cell s4 id, h.cell s5 id, h.cell s6 id, h.cell t0 id, h.cell t1 id, h.cell t2 id, h.cell t3 id, h.cell t4 id, h.cell t5 id, h.cell t6 id⟩
        have HKP := Lib.hid hkeep
        clear hkeep
        go_region_held3 (fun w' => w'.cell? ⟨g1, k * 7, none⟩ = some (.int .i64 ek) ∧ w'.cell? ⟨g1, k * 7 + 1, none⟩ = some (.int .i32 er) ∧ w'.cell? ⟨g1, k * 7 + 2, none⟩ = some (.slice pa1 ps.length pc1) ∧ w'.cell? ⟨g1, k * 7 + 3, none⟩ = some (.int .i32 epr) ∧ w'.cell? ⟨g1, k * 7 + 4, none⟩ = some (.int .i32 eit) ∧ w'.cell? ⟨g1, k * 7 + 5, none⟩ = some (.int .i32 efi) ∧ w'.cell? ⟨g1, k * 7 + 6, none⟩ = some (.string etx) ∧
            w'.cell? ⟨g2, k * 7, none⟩ = some (.int .i64 ek) ∧ w'.cell? ⟨g2, k * 7 + 1, none⟩ = some (.int .i32 er) ∧ w'.cell? ⟨g2, k * 7 + 2, none⟩ = some (.slice pa2 ps.length pc2) ∧ w'.cell? ⟨g2, k * 7 + 3, none⟩ = some (.int .i32 epr) ∧ w'.cell? ⟨g2, k * 7 + 4, none⟩ = some (.int .i32 eit) ∧ w'.cell? ⟨g2, k * 7 + 5, none⟩ = some (.int .i32 efi) ∧ w'.cell? ⟨g2, k * 7 + 6, none⟩ = some (.string etx))
          (exact HKP.out _ (by repeat (first | (with_reducible exact Chg.refl _ _) | (with_reducible refine Chg.drew ?_) | (with_reducible refine Chg.alloc ?_ _) | (refine Chg.setCell ?_ (.inr (by simp)) _)))) (fail)
        all_goals go_wp2
        all_goals go_meet
        all_goals exact ⟨_, _, rfl, rfl, Lib.hid (((Chg.refl wr nob).alloc _).alloc _).drew, Lib.hid (by first | exact Blk.dr (Blk.at (size_al _ _).symm) | exact Blk.dr (Blk.alloc (Blk.at rfl) _)), Lib.hid (by first | exact Blk.dr (Blk.at (size_al _ _).symm) | exact Blk.dr (Blk.alloc (Blk.at rfl) _))⟩
      case rest =>
        obtain ⟨bp, bq, rfl, rfl, HCX, HB1, HB2⟩ := hcut
        have u0 := HB1.out.cell 0
        have u1 := HB1.out.cell 1
        have u2 := HB1.out.cell 2
        have u3 := HB1.out.cell 3
        have u4 := HB1.out.cell 4
        have u5 := HB1.out.cell 5
        have u6 := HB1.out.cell 6
        simp only [List.getElem?_toArray, List.getElem?_cons_zero, List.getElem?_cons_succ] at u0 u1 u2 u3 u4 u5 u6
        have v0 := HB2.out.cell 0
        have v1 := HB2.out.cell 1
        have v2 := HB2.out.cell 2
        have v3 := HB2.out.cell 3
        have v4 := HB2.out.cell 4
        have v5 := HB2.out.cell 5
        have v6 := HB2.out.cell 6
        simp only [List.getElem?_toArray, List.getElem?_cons_zero, List.getElem?_cons_succ] at v0 v1 v2 v3 v4 v5 v6
        clear s0 s1 s2 s3 s4 s5 s6 t0 t1 t2 t3 t4 t5 t6
        go_wp2_with fail
        go_at_call 15
        refine (ints_eq _ _ _ ps ps (HR1.out.kept HCX.out (fun _ _ => id)) (HR2.out.kept HCX.out (fun _ _ => id)) (by omega) (by omega)).mono ?_
        rw [decide_eq_true rfl]
        rintro e w7 ⟨rfl, hc7⟩
        have HC7 := Lib.hid ((HC.out.trans HCX.out (fun _ _ h => h)).trans hc7 (fun _ _ h => h))
        clear hc7 u0 u1 u2 u3 u4 u5 u6 v0 v1 v2 v3 v4 v5 v6
        go_wp2
        go_roundw
        case rel => exact ⟨k + 1, by omega, by go_num, HC7.out⟩
        case measure => simp [intOf]; omega
    · obtain rfl : k = l.length := by omega
      go_wp2
      go_ret
      exact ⟨rfl, HC.out⟩
end Go.Proofs.Ytaficleoimfejaa
