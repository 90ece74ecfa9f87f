/-
  Chapter 8: esc.Same of two that are alike.
-/
import Derived.Test.YtaficleoimfejaaEsc16
namespace Go.Proofs.Ytaficleoimfejaa
open Go.RowKit
set_option linter.unusedVariables false
set_option linter.unusedSimpArgs false

set_option maxHeartbeats 4000000 in
theorem equal_same (w : World) (va vb : Value) (xs : List Int) (ha : Rd w 1 va xs.length (intI xs)) (hb : Rd w 1 vb xs.length (intI xs)) (hl : xs.length ≤ 140737488351232) :
    Calls Try.prog 32 #[va, vb] w fun e w' => e = .returned (.bool true) ∧ Chg w w' nob := by
  obtain ⟨a1, c1, rfl, hn1, _, hx1⟩ := ha
  obtain ⟨a2, c2, rfl, hn2, _, hx2⟩ := hb
  have hcA : ∀ wr, Chg w wr nob → ∀ j u, (intI xs)[j]? = some u → ∃ b o, a1 = some ⟨b, o, none⟩ ∧ wr.cell? ⟨b, o + j, none⟩ = some u := fun wr hch j u hu => by
    obtain ⟨b, o, h1, h2⟩ := hx1 j u hu
    exact ⟨b, o, h1, hch.cell h2 id⟩
  have hcB : ∀ wr, Chg w wr nob → ∀ j u, (intI xs)[j]? = some u → ∃ b o, a2 = some ⟨b, o, none⟩ ∧ wr.cell? ⟨b, o + j, none⟩ = some u := fun wr hch j u hu => by
    obtain ⟨b, o, h1, h2⟩ := hx2 j u hu
    exact ⟨b, o, h1, hch.cell h2 id⟩
  have HA := Lib.hid hcA
  have HB := Lib.hid hcB
  clear hcA hcB hx1 hx2
  go_enter Try.func32, Try.ntmps32
  go_wp2
  go_loopw [13] (fun i wr => ∃ k : Nat, k ≤ xs.length ∧ i = .int .i64 k ∧ Chg w wr nob) (fun i _ => xs.length - (intOf i).toNat)
  case atStart => exact ⟨0, Nat.zero_le _, rfl, Chg.refl _ _⟩
  case round =>
    obtain ⟨k, hk, rfl, hch⟩ := hrel
    by_cases hkl : k < xs.length
    · obtain ⟨b1, o1, rfl, hc1⟩ := HA.out wr hch k (.int .i64 (xs.getD k 0)) (by simp [intI, List.getD, hkl])
      obtain ⟨b2, o2, rfl, hc2⟩ := HB.out wr hch k (.int .i64 (xs.getD k 0)) (by simp [intI, List.getD, hkl])
      have hki : (k : Int) < (xs.length : Int) := by omega
      have hk0 : (0 : Int) ≤ (k : Int) := by omega
      generalize xs.getD k 0 = x at *
      go_wp2
      refine wp_one [3, 7] [] [] [0, 1, 2, 3, 4, 5, 6, 7, 8] rfl (by kernel_rfl) (fun _ _ _ _ _ h => h) ?_; simp only [List.map_cons, List.map_nil, List.getElem?_toArray, List.getElem?_cons_zero, List.getElem?_cons_succ]
      (repeat (first | (apply can0; (· rfl); (· rfl); (· (intro w'; first | (go_simp; with_reducible rfl) | (go_simp; done))); simp only [Act.put, List.setIfInBounds_toArray, List.set_cons_zero, List.set_cons_succ]) | (apply can1; (· rfl); (· rfl); (· (first | (go_simp; with_reducible rfl) | (go_simp; done))); simp only [Act.put, List.setIfInBounds_toArray, List.set_cons_zero, List.set_cons_succ]) | (apply canN; (· rfl); (· rfl); simp only [Act.put, List.setIfInBounds_toArray, List.set_cons_zero, List.set_cons_succ]) | (apply canN1; (· rfl); (· rfl); simp only [Act.put, List.setIfInBounds_toArray, List.set_cons_zero, List.set_cons_succ]) | (apply can0; (· rfl); (· (go_simp; done)); (· (intro w'; first | (go_simp; with_reducible rfl) | (go_simp; done))); simp only [Act.put, List.setIfInBounds_toArray, List.set_cons_zero, List.set_cons_succ]) | (apply can1; (· rfl); (· (go_simp; done)); (· (first | (go_simp; with_reducible rfl) | (go_simp; done))); simp only [Act.put, List.setIfInBounds_toArray, List.set_cons_zero, List.set_cons_succ]) | (apply canN; (· rfl); (· (go_simp; done)); simp only [Act.put, List.setIfInBounds_toArray, List.set_cons_zero, List.set_cons_succ]) | (apply canN1; (· rfl); (· (go_simp; done)); simp only [Act.put, List.setIfInBounds_toArray, List.set_cons_zero, List.set_cons_succ])))
      refine canE ?_
      go_wp2
      go_roundw
      case rel => exact ⟨k + 1, by omega, by go_num, hch.drew⟩
      case measure => simp [intOf]; omega
    · obtain rfl : k = xs.length := by omega
      go_wp2
      go_ret
      exact ⟨rfl, hch⟩

set_option maxRecDepth 100000 in
set_option maxHeartbeats 8000000 in
theorem same_same (w : World) (ev : Ev) (a1 a2 : Option Addr) (n1 n2 c1 c2 : Nat) (h1 : Rd w 1 (.slice a1 n1 c1) ev.ps.length (intI ev.ps)) (h2 : Rd w 1 (.slice a2 n2 c2) ev.ps.length (intI ev.ps)) (hl : ev.ps.length ≤ 140737488351232) :
    Calls Try.prog 20 #[.agg (evc (ev, .slice a1 n1 c1)).toArray, .agg (evc (ev, .slice a2 n2 c2)).toArray] w fun e w' => e = .returned (.bool true) ∧ Chg w w' nob := by
  obtain ⟨k, r, ps, pr, it, fi, tx⟩ := ev
  obtain ⟨wd, hwd⟩ : ∃ wd, (w.alloc (.cells #[.int .i64 k, .int .i32 r, .slice a1 n1 c1, .int .i32 pr, .int .i32 it, .int .i32 fi, .string tx] 41)).alloc (.cells #[.int .i64 k, .int .i32 r, .slice a2 n2 c2, .int .i32 pr, .int .i32 it, .int .i32 fi, .string tx] 41) = wd := ⟨_, rfl⟩
  have hb1 : Blk wd w.heap.size 41 #[.int .i64 k, .int .i32 r, .slice a1 n1 c1, .int .i32 pr, .int .i32 it, .int .i32 fi, .string tx] := by rw [← hwd]; exact (Blk.new w _ _).alloc _
  have hb2 : Blk wd (w.heap.size + 1) 41 #[.int .i64 k, .int .i32 r, .slice a2 n2 c2, .int .i32 pr, .int .i32 it, .int .i32 fi, .string tx] := by
    rw [← hwd, ← size_al w (.cells #[.int .i64 k, .int .i32 r, .slice a1 n1 c1, .int .i32 pr, .int .i32 it, .int .i32 fi, .string tx] 41)]; exact Blk.new _ _ _
  have hc : Chg w wd nob := by rw [← hwd]; exact ((Chg.refl w nob).alloc _).alloc _
  have HB1 := Lib.hid hb1
  have HB2 := Lib.hid hb2
  have HC := Lib.hid hc
  have HWD := Lib.hid hwd
  have HR1 := Lib.hid (h1.kept hc (fun _ _ => id))
  have HR2 := Lib.hid (h2.kept hc (fun _ _ => id))
  clear hwd hb1 hb2 hc h1 h2
  simp only [evc]
  go_enter Try.func20, Try.ntmps20
  go_upto_region 1 with (fail)
  rw [show (w.alloc _).alloc _ = wd from HWD.out]
  have p0 := HB1.out.cell 0
  have p1 := HB1.out.cell 1
  have p2 := HB1.out.cell 2
  have p3 := HB1.out.cell 3
  have p4 := HB1.out.cell 4
  have p5 := HB1.out.cell 5
  have p6 := HB1.out.cell 6
  simp only [List.getElem?_toArray, List.getElem?_cons_zero, List.getElem?_cons_succ] at p0 p1 p2 p3 p4 p5 p6
  have q0 := HB2.out.cell 0
  have q1 := HB2.out.cell 1
  have q2 := HB2.out.cell 2
  have q3 := HB2.out.cell 3
  have q4 := HB2.out.cell 4
  have q5 := HB2.out.cell 5
  have q6 := HB2.out.cell 6
  simp only [List.getElem?_toArray, List.getElem?_cons_zero, List.getElem?_cons_succ] at q0 q1 q2 q3 q4 q5 q6
  go_wp2_with fail
  go_at_call 32
  refine (equal_same wd _ _ ps HR1.out HR2.out hl).mono ?_
  rintro e w2 ⟨rfl, hc2⟩
  have HB3 := Lib.hid (HB1.out.kept hc2 id)
  have HB4 := Lib.hid (HB2.out.kept hc2 id)
  have HC2 := Lib.hid (HC.out.trans hc2 (fun _ _ h => h))
  clear p0 p1 p2 p3 p4 p5 p6 q0 q1 q2 q3 q4 q5 q6 hc2
  have p0 := HB3.out.cell 0
  have p1 := HB3.out.cell 1
  have p2 := HB3.out.cell 2
  have p3 := HB3.out.cell 3
  have p4 := HB3.out.cell 4
  have p5 := HB3.out.cell 5
  have p6 := HB3.out.cell 6
  simp only [List.getElem?_toArray, List.getElem?_cons_zero, List.getElem?_cons_succ] at p0 p1 p2 p3 p4 p5 p6
  have q0 := HB4.out.cell 0
  have q1 := HB4.out.cell 1
  have q2 := HB4.out.cell 2
  have q3 := HB4.out.cell 3
  have q4 := HB4.out.cell 4
  have q5 := HB4.out.cell 5
  have q6 := HB4.out.cell 6
  simp only [List.getElem?_toArray, List.getElem?_cons_zero, List.getElem?_cons_succ] at q0 q1 q2 q3 q4 q5 q6
  go_wp2
  go_ret
  exact ⟨rfl, HC2.out⟩
end Go.Proofs.Ytaficleoimfejaa
