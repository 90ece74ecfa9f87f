/-
  Chapter 8: Plain.
-/
import Derived.Test.YtaficleoimfejaaEsc32
namespace Go.Proofs.Ytaficleoimfejaa
open Go.RowKit
set_option linter.unusedVariables false
set_option linter.unusedSimpArgs false



/-- Events of the document's, their params where they lay. -/
def PLV (w wr : World) (v : Value) (l : List Ev) (D : Nat → Prop) : Prop :=
  ∃ q : List (Ev × Value), q.map Prod.fst = l ∧ Own wr 50 7 v q.length (q.flatMap evc) ∧ (∀ y ∈ q, Rd wr 1 y.2 y.1.ps.length (intI y.1.ps) ∧ ∀ k, blkOf y.2 k → D k) ∧ Chg w wr nob ∧ ∀ k, blkOf v k → w.heap.size ≤ k
theorem PLV.push {w wr w1 : World} {v v1 : Value} {l : List Ev} {D : Nat → Prop} {q : List (Ev × Value)} (hq1 : q.map Prod.fst = l) (hq3 : ∀ y ∈ q, Rd wr 1 y.2 y.1.ps.length (intI y.1.ps) ∧ ∀ k, blkOf y.2 k → D k) (hc : Chg w wr nob) (hv : ∀ k, blkOf v k → w.heap.size ≤ k)
    (hD : ∀ k, D k → k < w.heap.size) (ev : Ev) (pv : Value) (hr : Rd wr 1 pv ev.ps.length (intI ev.ps)) (hpv : ∀ k, blkOf pv k → D k)
    (ho : Own w1 50 7 v1 (q.length + 1) (q.flatMap evc ++ evc (ev, pv))) (hc1 : Chg wr w1 (blkOf v)) (hf : ∀ k, blkOf v1 k → blkOf v k ∨ wr.heap.size ≤ k) : PLV w w1 v1 (l ++ [ev]) D := by
  have hno : ∀ k, D k → ¬ blkOf v k := fun k hk h => by have h1 := hD k hk; have h2 := hv k h; omega
  refine ⟨q ++ [(ev, pv)], by rw [List.map_append, hq1]; rfl, by simpa using ho, fun y hy => ?_, hc.trans hc1 (fun i hi h => by have := hv i h; omega), fun k hk => ?_⟩
  · rcases List.mem_append.1 hy with hy | hy
    · exact ⟨(hq3 y hy).1.kept hc1 (fun k hk => hno k ((hq3 y hy).2 k hk)), (hq3 y hy).2⟩
    · rw [List.mem_singleton] at hy
      subst hy
      exact ⟨hr.kept hc1 (fun k hk => hno k (hpv k hk)), hpv⟩
  · rcases hf k hk with h | h
    · exact hv k h
    · exact Nat.le_trans hc.size h
theorem take_ev {l : List Ev} {k : Nat} {ev : Ev} (h : l[k]? = some ev) : l.take (k + 1) = l.take k ++ [ev] := by rw [List.take_add_one, h]; rfl
set_option maxRecDepth 100000 in
set_option maxHeartbeats 8000000 in
theorem plain_any (w : World) (va : Value) (l : List Ev) (D : Nat → Prop) (ha : EVS w va l D) (hD : ∀ k, D k → k < w.heap.size) (hl : l.length ≤ 1000000) :
    Calls Try.prog 10 #[va] w fun e w' => ∃ v, e = .returned v ∧ PLV w w' v l D := by
  obtain ⟨ao1, cap1, rfl, hcap1, hmax1⟩ := ha.len
  have HA := Lib.hid ha
  have HD := Lib.hid hD
  clear ha hD
  go_enter Try.func10, Try.ntmps10
  go_wp2
  go_loopw [3, 4] (fun ov i wr => ∃ k : Nat, k ≤ l.length ∧ i = .int .i64 k ∧ Hid (PLV w wr ov (l.take k) D)) (fun _ i _ => l.length - (intOf i).toNat)
  case atStart => exact ⟨0, Nat.zero_le _, rfl, Lib.hid ⟨[], rfl, World.ownsRow_nil _ _ _ _, fun y hy => by simp at hy, Chg.refl _ _, fun k hk => by cases hk⟩⟩
  case round =>
    obtain ⟨k, hk, rfl, HL⟩ := hrel
    by_cases hkl : k < l.length
    · have hkn : (k : Int) < (l.length : Int) := by omega
      have hk0 : (0 : Int) ≤ (k : Int) := by omega
      obtain ⟨ev, hev⟩ : ∃ ev, l[k]? = some ev := ⟨l[k], List.getElem?_eq_getElem hkl⟩
      have HTK := Lib.hid (take_ev hev)
      obtain ⟨q, hq1, hq2, hq3, hq4, hq5⟩ := HL.out
      have hql : q.length ≤ 1000000 := by
        have h := congrArg List.length hq1
        rw [List.length_map, List.length_take] at h
        omega
      obtain ⟨ao, co, rfl, _, _, _, _⟩ := hq2.form
      have hA := HA.out.kept hq4 (fun _ _ => id)
      obtain ⟨g1, d1, pv1, hv1, _, _, hr1, hp1, hcell1⟩ := hA.at hev
      cases hv1
      obtain ⟨pa1, pc1, rfl, _, _⟩ := hr1.form
      obtain ⟨ek, er, ps, epr, eit, efi, etx⟩ := ev
      have s0 := hcell1 0 (by omega)
      have s1 := hcell1 1 (by omega)
      have s2 := hcell1 2 (by omega)
      have s3 := hcell1 3 (by omega)
      have s4 := hcell1 4 (by omega)
      have s5 := hcell1 5 (by omega)
      have s6 := hcell1 6 (by omega)
      simp only [evc, List.getElem?_cons_zero, List.getElem?_cons_succ, Nat.add_zero] at s0 s1 s2 s3 s4 s5 s6
      have HQ1 := Lib.hid hq1
      have HQ2 := Lib.hid hq2
      have HQ3 := Lib.hid hq3
      have HQ4 := Lib.hid hq4
      have HQ5 := Lib.hid hq5
      have HR1 := Lib.hid hr1
      have HP1 := Lib.hid hp1
      clear hq1 hq2 hq3 hq4 hq5 hA hr1 hp1 hcell1 hev HL
      go_upto_region 6 with (fail)
      obtain ⟨w5, hw5⟩ : ∃ w5, wr.alloc (.cells #[.int .i64 ek, .int .i32 er, .slice pa1 ps.length pc1, .int .i32 epr, .int .i32 eit, .int .i32 efi, .string etx] 41) = w5 := ⟨_, rfl⟩
      rw [hw5]
      have hb5 : Blk w5 wr.heap.size 41 #[.int .i64 ek, .int .i32 er, .slice pa1 ps.length pc1, .int .i32 epr, .int .i32 eit, .int .i32 efi, .string etx] := by rw [← hw5]; exact Blk.new wr _ _
      have hc5 : Chg wr w5 nob := by rw [← hw5]; exact (Chg.refl wr nob).alloc _
      have HB5 := Lib.hid hb5
      have HC5 := Lib.hid hc5
      clear hb5 hc5 hw5 s0 s1 s2 s3 s4 s5 s6
      have u0 := HB5.out.cell 0
      have u1 := HB5.out.cell 1
      have u2 := HB5.out.cell 2
      have u3 := HB5.out.cell 3
      have u4 := HB5.out.cell 4
      have u5 := HB5.out.cell 5
      have u6 := HB5.out.cell 6
      simp only [List.getElem?_toArray, List.getElem?_cons_zero, List.getElem?_cons_succ] at u0 u1 u2 u3 u4 u5 u6
      go_wp2_with (at_builtin; refine wpList_push rfl (.tmp 16) (.tmp 32) 31 rfl 50 (.agg #[.int .i64 0, .int .i32 0, .slice none 0 0, .int .i32 0, .int .i32 0, .int .i32 0, .string .empty]) 7 72 i_revent u_revents rfl (by decide) (.slice ao q.length co) q.length _ rfl (HQ2.out.kept HC5.out (fun _ _ => id)) 1 1 rfl rfl rfl (by unfold maxLen; omega) (by omega) ?_)
      intro v3 w3 ho3 (hch3 : Chg w5 w3 (blkOf (.slice ao q.length co))) (hfo3 : ∀ k, blkOf v3 k → blkOf (.slice ao q.length co) k ∨ w5.heap.size ≤ k)
      have hB := PLV.push (wr := w5) (l := l.take k) HQ1.out (fun y hy => ⟨(HQ3.out y hy).1.kept HC5.out (fun _ _ => id), (HQ3.out y hy).2⟩) (HQ4.out.trans HC5.out (fun _ _ h => h)) HQ5.out HD.out ⟨ek, er, ps, epr, eit, efi, etx⟩ (.slice pa1 ps.length pc1) (HR1.out.kept HC5.out (fun _ _ => id)) HP1.out ho3 hch3 hfo3
      rw [← HTK.out] at hB
      obtain ⟨a3, c3, rfl, _⟩ := ho3.form
      have HB := Lib.hid hB
      clear hB ho3 hch3 hfo3 u0 u1 u2 u3 u4 u5 u6
      go_wp2
      go_roundw
      case rel => exact ⟨k + 1, by omega, by go_num, HB⟩
      case measure => simp [intOf]; omega
    · obtain rfl : k = l.length := by omega
      rw [List.take_length] at HL
      go_wp2
      go_ret
      exact ⟨_, rfl, HL.out⟩
end Go.Proofs.Ytaficleoimfejaa
