/-
  screen.Copy; package diff: changed.
-/
import Derived.Test.YtmbdpcamhkdkmaaGreatDoorMg32
import Derived.Test.YtmbdpcamhkdkmaaGreatDoorKDecM
namespace Go.Proofs.YtmbdpcamhkdkmaaGreatDoor
open Go.RowKit
set_option linter.unusedVariables false
set_option linter.unusedSimpArgs false

theorem Cs.ofChg {w w1 w2 : World} {v : Value} {l : List Ce} (h : Cs w w1 v l) {F : Nat → Prop} (hc : Chg w1 w2 F) (hf : ∀ k, blkOf v k → ¬ F k) : Cs w w2 v l := ⟨h.1.kept hc hf, h.2⟩
abbrev zscr : Array Value := scA 0 0 (.slice none 0 0) 0 0 false ⟨#[]⟩
set_option maxRecDepth 100000 in
set_option maxHeartbeats 4000000 in
theorem scopy_any (w : World) (s : Sc) (va : Value) (ha : Rd w 5 va s.l.length (cellsV s.l)) (hl : s.l.length ≤ 1000000) :
    Calls Tryz.prog 56 #[scS s va] w fun e w' => ∃ a n, e = .returned (scS s (.slice a s.l.length n)) ∧ Cs w w' (.slice a s.l.length n) s.l ∧ Chg w w' nob := by
  obtain ⟨aa, ca, rfl, _⟩ := ha.form
  have HA := Lib.hid ha
  clear ha
  go_enter Tryz.func56, Tryz.ntmps56
  go_upto_region 1 with (fail)
  obtain ⟨w1, hw⟩ : ∃ W, (w.alloc (.cells (scA s.r s.c (.slice aa s.l.length ca) s.y s.x s.h s.t) 24)).alloc (.cells zscr 24) = W := ⟨_, rfl⟩
  have HC : Hid (Chg w w1 nob) := Lib.hid (by rw [← hw]; exact ((Chg.refl w nob).alloc _).alloc _)
  have HS : Hid (Blk w1 w.heap.size 24 (scA s.r s.c (.slice aa s.l.length ca) s.y s.x s.h s.t)) := Lib.hid (by rw [← hw]; exact (Blk.new w _ _).alloc _)
  have HX : Hid (Blk w1 (w.heap.size + 1) 24 zscr) := Lib.hid (by rw [← hw]; exact Blk.new2' w _ _ _)
  have hw' := hw
  simp only [zscr] at hw'
  rw [hw']
  clear hw hw'
  obtain ⟨ia, hia⟩ : ∃ i, w.heap.size = i := ⟨_, rfl⟩
  have HIA := Lib.hid hia
  rw [hia] at HS HX ⊢
  clear hia
  obtain ⟨ix, hix⟩ : ∃ i, ia + 1 = i := ⟨_, rfl⟩
  have HIX : Hid (w.heap.size ≤ ix) := Lib.hid (by have := HIA.out; omega)
  have HAX : Hid (ia ≠ ix) := Lib.hid (by omega)
  rw [hix] at HX ⊢
  clear hix
  have x0 := HS.out.cell 0
  have x1 := HS.out.cell 1
  have x2 := HS.out.cell 2
  have x3 := HS.out.cell 3
  have x4 := HS.out.cell 4
  have x5 := HS.out.cell 5
  have x6 := HS.out.cell 6
  simp only [List.getElem?_toArray, List.getElem?_cons_zero, List.getElem?_cons_succ] at x0 x1 x2 x3 x4 x5 x6
  have f0 := HS.out.free 0
  have f1 := HS.out.free 1
  have f2 := HS.out.free 2
  have f3 := HS.out.free 3
  have f4 := HS.out.free 4
  have f5 := HS.out.free 5
  have f6 := HS.out.free 6
  go_wp2_with fail
  go_at_call 81
  refine (clone5_any w1 _ s.l (HA.out.kept HC.out (fun _ _ => id)) hl).mono ?_
  rintro e w2 ⟨v2, rfl, hcs, hck⟩
  have HV := Lib.hid (hcs.newer HC.out)
  have HCS : Hid (∀ k, blkOf v2 k → w1.heap.size ≤ k) := Lib.hid hcs.2
  have hS1 := HS.out.lt
  have hX1 := HX.out.lt
  replace HS := Lib.hid (HS.out.kept hck id)
  replace HX := Lib.hid (HX.out.kept hck id)
  replace HC := Lib.hid (HC.out.trans hck (fun _ _ h => h))
  obtain ⟨a2, c2, rfl, _⟩ := hcs.form
  clear hcs hck x0 x1 x2 x3 x4 x5 x6 f0 f1 f2 f3 f4 f5 f6
  have x0 := HS.out.cell 0
  have x1 := HS.out.cell 1
  have x2 := HS.out.cell 2
  have x3 := HS.out.cell 3
  have x4 := HS.out.cell 4
  have x5 := HS.out.cell 5
  have x6 := HS.out.cell 6
  simp only [List.getElem?_toArray, List.getElem?_cons_zero, List.getElem?_cons_succ] at x0 x1 x2 x3 x4 x5 x6
  have f0 := HS.out.free 0
  have f1 := HS.out.free 1
  have f2 := HS.out.free 2
  have f3 := HS.out.free 3
  have f4 := HS.out.free 4
  have f5 := HS.out.free 5
  have f6 := HS.out.free 6
  go_upto_region 2 with (fail)
  obtain ⟨w3, hw⟩ : ∃ W, w2.setCell ⟨ia, 2, none⟩ (.slice a2 s.l.length c2) = W := ⟨_, rfl⟩
  have hck : Chg w2 w3 (fun k => k = ia) := by rw [← hw]; exact (Chg.refl w2 (fun k => k = ia)).setCell (p := ⟨ia, 2, none⟩) (.inl rfl) _
  replace HS : Hid (Blk w3 ia 24 (scA s.r s.c (.slice a2 s.l.length c2) s.y s.x s.h s.t)) := Lib.hid (by rw [← hw]; exact HS.out.set 2 _)
  rw [hw]
  replace HX := Lib.hid (HX.out.kept hck (fun h => HAX.out h.symm))
  replace HV := Lib.hid (HV.out.ofChg hck (fun k hk e => by have := HCS.out k hk; omega))
  replace HC := Lib.hid (HC.out.trans hck (fun i hi e => by have := HIA.out; omega))
  clear hw hck x0 x1 x2 x3 x4 x5 x6 f0 f1 f2 f3 f4 f5 f6
  have y0 := HS.out.cell 0
  have y1 := HS.out.cell 1
  have y2 := HS.out.cell 2
  have y3 := HS.out.cell 3
  have y4 := HS.out.cell 4
  have y5 := HS.out.cell 5
  have y6 := HS.out.cell 6
  simp only [List.getElem?_toArray, List.getElem?_cons_zero, List.getElem?_cons_succ] at y0 y1 y2 y3 y4 y5 y6
  have g0 := HS.out.free 0
  have g1 := HS.out.free 1
  have g2 := HS.out.free 2
  have g3 := HS.out.free 3
  have g4 := HS.out.free 4
  have g5 := HS.out.free 5
  have g6 := HS.out.free 6
  have x0 := HX.out.cell 0
  have x1 := HX.out.cell 1
  have x2 := HX.out.cell 2
  have x3 := HX.out.cell 3
  have x4 := HX.out.cell 4
  have x5 := HX.out.cell 5
  have x6 := HX.out.cell 6
  simp only [List.getElem?_toArray, List.getElem?_cons_zero, List.getElem?_cons_succ] at x0 x1 x2 x3 x4 x5 x6
  have f0 := HX.out.free 0
  have f1 := HX.out.free 1
  have f2 := HX.out.free 2
  have f3 := HX.out.free 3
  have f4 := HX.out.free 4
  have f5 := HX.out.free 5
  have f6 := HX.out.free 6
  go_wp2
  obtain ⟨wz, hwz⟩ : ∃ W, ((((((World.setCell w3 ⟨ix, 0, none⟩ (.int .i64 s.r)).setCell ⟨ix, 1, none⟩ (.int .i64 s.c)).setCell ⟨ix, 2, none⟩ (.slice a2 s.l.length c2)).setCell ⟨ix, 3, none⟩ (.int .i64 s.y)).setCell ⟨ix, 4, none⟩ (.int .i64 s.x)).setCell ⟨ix, 5, none⟩ (.bool s.h)).setCell ⟨ix, 6, none⟩ (.string s.t) = W := ⟨_, rfl⟩
  have HXZ : Hid (Blk wz ix 24 #[.int .i64 s.r, .int .i64 s.c, .slice a2 s.l.length c2, .int .i64 s.y, .int .i64 s.x, .bool s.h, .string s.t]) := Lib.hid (by rw [← hwz]; exact ((((((HX.out.set 0 _).set 1 _).set 2 _).set 3 _).set 4 _).set 5 _).set 6 _)
  have hnew : w.heap.size ≤ ix := by have := HIX.out; omega
  have HCZ : Hid (Chg w wz nob) := Lib.hid (by
    rw [← hwz]
    exact ((((((HC.out.setCell (p := ⟨ix, 0, none⟩) (.inr hnew) _).setCell (p := ⟨ix, 1, none⟩) (.inr hnew) _).setCell (p := ⟨ix, 2, none⟩) (.inr hnew) _).setCell (p := ⟨ix, 3, none⟩) (.inr hnew) _).setCell (p := ⟨ix, 4, none⟩) (.inr hnew) _).setCell (p := ⟨ix, 5, none⟩) (.inr hnew) _).setCell (p := ⟨ix, 6, none⟩) (.inr hnew) _)
  have hcq : Chg w3 wz (fun k => k = ix) := by
    rw [← hwz]
    exact (((((((Chg.refl w3 (fun k => k = ix)).setCell (p := ⟨ix, 0, none⟩) (.inl rfl) _).setCell (p := ⟨ix, 1, none⟩) (.inl rfl) _).setCell (p := ⟨ix, 2, none⟩) (.inl rfl) _).setCell (p := ⟨ix, 3, none⟩) (.inl rfl) _).setCell (p := ⟨ix, 4, none⟩) (.inl rfl) _).setCell (p := ⟨ix, 5, none⟩) (.inl rfl) _).setCell (p := ⟨ix, 6, none⟩) (.inl rfl) _
  rw [hwz]
  clear hwz
  have z0 := HXZ.out.cell 0
  have z1 := HXZ.out.cell 1
  have z2 := HXZ.out.cell 2
  have z3 := HXZ.out.cell 3
  have z4 := HXZ.out.cell 4
  have z5 := HXZ.out.cell 5
  have z6 := HXZ.out.cell 6
  simp only [List.getElem?_toArray, List.getElem?_cons_zero, List.getElem?_cons_succ] at z0 z1 z2 z3 z4 z5 z6
  refine bodyPost_ret (v := scS s (.slice a2 s.l.length c2)) (by simp [results, Tryz.results56, go_sem, z0, z1, z2, z3, z4, z5, z6]) rfl ?_
  exact ⟨_, _, rfl, HV.out.ofChg hcq (fun k hk e => by have := HCS.out k hk; omega), HCZ.out⟩
end Go.Proofs.YtmbdpcamhkdkmaaGreatDoor
