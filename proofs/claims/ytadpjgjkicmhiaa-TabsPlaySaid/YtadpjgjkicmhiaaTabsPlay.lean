/-
  Chapter 10: the walk of TabsPlay.
-/
import Derived.Test.YtadpjgjkicmhiaaTabs9
import Derived.Test.YtadpjgjkicmhiaaTabsSizes
import Derived.Deep.DeepCutAuto
import Derived.Deep.CutBlock
namespace Go.Proofs.Ytadpjgjkicmhiaa
open Go.RowKit
set_option linter.unusedVariables false
set_option linter.unusedSimpArgs false
attribute [local go_sem ↓] run_min_two run_max_two

/-- An operation of the law's list lies at its place. -/
def OpAt (w : World) (a : Option Addr) (k : Nat) (kd c n : Int) : Prop :=
  ∃ b o, a = some ⟨b, o, none⟩ ∧ w.cell? ⟨b, o + k * 3, none⟩ = some (.int .i64 kd) ∧ w.cell? ⟨b, o + k * 3 + 1, none⟩ = some (.int .i64 c) ∧ w.cell? ⟨b, o + k * 3 + 2, none⟩ = some (.int .i64 n)
theorem OpAt.kept {w w' : World} {a : Option Addr} {k : Nat} {kd c n : Int} (h : OpAt w a k kd c n) (hc : Chg w w' nob) : OpAt w' a k kd c n := by
  obtain ⟨b, o, h1, h2, h3, h4⟩ := h
  exact ⟨b, o, h1, hc.cell h2 id, hc.cell h3 id, hc.cell h4 id⟩

theorem clear_step {l : List Bool} {j : Nat} (h : j < l.length) : (List.replicate j false ++ l.drop j).set j false = List.replicate (j + 1) false ++ l.drop (j + 1) := by
  rw [List.set_append_right _ _ (by simp), List.length_replicate, Nat.sub_self, List.drop_eq_getElem_cons h, List.set_cons_zero, List.replicate_succ', List.append_assoc]
  rfl
theorem h_ints (w : World) (v1 v2 : Value) (t1 t2 : TypeId) (l : List Bool) (h1 : Own w t1 1 v1 (stopsOf l).length (intsV (stopsOf l))) (h2 : Own w t2 1 v2 (stopsOf l).length (intsV (stopsOf l))) (hl : l.length ≤ 200) :
    Calls Try.prog 19 #[v1, v2] w fun e w' => e = .returned (.bool true) ∧ Chg w w' nob := by
  have hle : (stopsOf l).length ≤ 200 := by have := stopsFrom_le l 0; unfold stopsOf; omega
  refine (ints_eq w v1 v2 ((stopsOf l).map fun (n : Nat) => (n : Int)) ((stopsOf l).map fun (n : Nat) => (n : Int)) (by rw [← intsV_intI, List.length_map]; exact h1.rd) (by rw [← intsV_intI, List.length_map]; exact h2.rd) (by simp; omega) (by simp; omega)).mono fun e w' ⟨he, hw⟩ => ⟨?_, hw⟩
  rw [he, decide_eq_true rfl]

set_option maxRecDepth 100000 in
set_option maxHeartbeats 8000000 in
theorem TabsPlay_walk (a0 : Int) (a1 : Option Addr) (len1 cap1 : Nat) (w : World)
    (hr1 : ∀ i, i < len1 → ∃ b o, a1 = some ⟨b, o, none⟩ ∧ ∀ j k, ([.i64, .i64, .i64] : List IntKind)[j]? = some k → ∃ z, w.cell? ⟨b, o + i * ([.i64, .i64, .i64] : List IntKind).length + j, none⟩ = some (.int k z) ∧ (Lit.int k z).wf = true)
    (w0 : -9223372036854775808 ≤ a0 ∧ a0 ≤ 9223372036854775807) :
    Calls Try.prog 5 #[.int .i64 a0, .slice a1 len1 cap1] w fun e w' => e = .returned (.bool true) ∧ Chg w w' nob := by
  have hr2 : ∀ k, k < len1 → ∃ kd c n, OpAt w a1 k kd c n ∧ (-9223372036854775808 ≤ kd ∧ kd ≤ 9223372036854775807) ∧ (-9223372036854775808 ≤ c ∧ c ≤ 9223372036854775807) ∧ (-9223372036854775808 ≤ n ∧ n ≤ 9223372036854775807) := fun k hk => by
    obtain ⟨b, o, h1, h2⟩ := hr1 k hk
    obtain ⟨z0, c0, f0⟩ := h2 0 .i64 rfl
    obtain ⟨z1, c1, f1⟩ := h2 1 .i64 rfl
    obtain ⟨z2, c2, f2⟩ := h2 2 .i64 rfl
    exact ⟨z0, z1, z2, ⟨b, o, h1, c0, c1, c2⟩, wf_i64_b f0, wf_i64_b f1, wf_i64_b f2⟩
  have HR := Lib.hid hr2
  clear hr1 hr2
  by_cases hl : len1 ≤ 200
  · by_cases hc : 1 ≤ a0 ∧ a0 ≤ 200
    · obtain ⟨cn, rfl⟩ := Int.eq_ofNat_of_zero_le (show 0 ≤ a0 by omega)
      have hln : ¬ (200 : Int) < (len1 : Int) := by omega
      go_enter Try.func5, Try.ntmps5
      go_wp2_with fail
      go_at_call 6
      refine (first_any w).mono ?_
      rintro e wA ⟨rfl, hA⟩
      have HA := Lib.hid hA
      clear hA
      go_wp2_with fail
      go_at_call 7
      refine (h_new wA (cn : Int) (by omega) (by omega)).mono ?_
      rintro e wB ⟨b, rfl, hB⟩
      have HB : Hid (Here w wB b (fresh 0 cn)) := Lib.hid (Here.from HA.out hB)
      clear hB HA
      go_wp2_with fail
      go_at_call 16
      refine (rnew_any wB (cn : Int) (by omega) (by omega)).mono ?_
      rintro e wC ⟨x, G, rfl, hx, hcC, hG⟩
      have HT : Hid (Two w wC b x (fresh 0 cn) (fresh 0 cn)) := Lib.hid (by
        obtain ⟨F, h1, h2, h3⟩ := HB.out
        exact Two.make h1 h3 h2 hx hG hcC)
      clear hx hcC hG HB
      go_wp2_with fail
      go_loopw [9] (fun i wr => ∃ k : Nat, k ≤ len1 ∧ i = .int .i64 k ∧ ∃ l, Hid (1 ≤ l.length ∧ Two w wr b x l l)) (fun i _ => len1 - (intOf i).toNat)
      case atStart => exact ⟨0, Nat.zero_le _, rfl, _, by rw [fresh_len]; omega, HT.out⟩
      case round =>
        obtain ⟨k, hk, rfl, l, HI⟩ := hrel
        clear HT
        by_cases hkl : k < len1
        · have hki : (k : Int) < (len1 : Int) := by omega
          obtain ⟨kd, c, n, ho, bk, bc, bn⟩ := HR.out k hkl
          obtain ⟨b1, o1, rfl, h1, h2, h3⟩ := ho.kept HI.out.2.chg
          go_upto_region 14 with (fail)
          have hP : Blk (wr.alloc (.cells #[.int .i64 kd, .int .i64 c, .int .i64 n] 40)) wr.heap.size 40 #[.int .i64 kd, .int .i64 c, .int .i64 n] := Blk.new _ _ _
          have HT : Hid (Two w (wr.alloc (.cells #[.int .i64 kd, .int .i64 c, .int .i64 n] 40)) b x l l) := Lib.hid (HI.out.2.kept ((Chg.refl wr nob).alloc _))
          have HL := Lib.hid HI.out.1
          clear h1 h2 h3 ho HI
          generalize wr.alloc (.cells #[.int .i64 kd, .int .i64 c, .int .i64 n] 40) = wD at *
          generalize wr.heap.size = p at *
          have h0 : wD.cell? ⟨p, 0, none⟩ = some (.int .i64 kd) := by rw [hP.cell]; rfl
          have h1 : wD.cell? ⟨p, 1, none⟩ = some (.int .i64 c) := by rw [hP.cell]; rfl
          go_upto_block 2 with (fail)
          go_cut [11, 12] (fun v _ wx => v = .bool true ∧ ∃ l, Hid (1 ≤ l.length ∧ Two w wx b x l l ∧ Blk wx p 40 #[.int .i64 kd, .int .i64 c, .int .i64 n]))
          case first =>
            rcases (show kd = 0 ∨ kd = 1 ∨ kd = 2 ∨ kd = 3 ∨ (kd ≠ 0 ∧ kd ≠ 1 ∧ kd ≠ 2 ∧ kd ≠ 3) by omega) with k0 | k1 | k2 | k3 | k4
            · subst k0
              go_upto_region 16 with (fail)
              refine wp_one [2, 6] [3, 7] [(3, [6])] [0, 1, 2, 4, 5, 6, 3, 7, 8, 9] rfl (by kernel_rfl) (fun _ _ _ _ _ h => h) ?_; simp only [List.map_cons, List.map_nil, List.getElem?_toArray, List.getElem?_cons_zero, List.getElem?_cons_succ]
              (repeat (first | (apply can0; (· rfl); (· rfl); (· (intro w'; first | (go_simp; with_reducible rfl) | (go_simp; done))); simp only [Act.put, List.setIfInBounds_toArray, List.set_cons_zero, List.set_cons_succ]) | (apply can1; (· rfl); (· rfl); (· (first | (go_simp; with_reducible rfl) | (go_simp; done))); simp only [Act.put, List.setIfInBounds_toArray, List.set_cons_zero, List.set_cons_succ]) | (apply canN; (· rfl); (· rfl); simp only [Act.put, List.setIfInBounds_toArray, List.set_cons_zero, List.set_cons_succ]) | (apply canN1; (· rfl); (· rfl); simp only [Act.put, List.setIfInBounds_toArray, List.set_cons_zero, List.set_cons_succ]) | (apply can0; (· rfl); (· (go_simp; done)); (· (intro w'; first | (go_simp; with_reducible rfl) | (go_simp; done))); simp only [Act.put, List.setIfInBounds_toArray, List.set_cons_zero, List.set_cons_succ]) | (apply can1; (· rfl); (· (go_simp; done)); (· (first | (go_simp; with_reducible rfl) | (go_simp; done))); simp only [Act.put, List.setIfInBounds_toArray, List.set_cons_zero, List.set_cons_succ]) | (apply canN; (· rfl); (· (go_simp; done)); simp only [Act.put, List.setIfInBounds_toArray, List.set_cons_zero, List.set_cons_succ]) | (apply canN1; (· rfl); (· (go_simp; done)); simp only [Act.put, List.setIfInBounds_toArray, List.set_cons_zero, List.set_cons_succ])))
              refine canW rfl [6] rfl (fun K hK => ?_)
              go_simp
              go_at_call 9
              refine (t_set (HT.out.kept (Chg.refl wD nob).drew) c).mono ?_
              rintro e w4 ⟨rfl, hT4, hK4⟩
              have hP4 := hK4 _ _ hP
              have hc4 : w4.cell? ⟨p, 1, none⟩ = some (.int .i64 c) := by rw [hP4.cell]; rfl
              have HT4 := Lib.hid hT4
              clear hT4 hK4
              (refine hK _ _ (fun u hu => by simp only [List.mem_cons, List.not_mem_nil, or_false] at hu; (first | (subst hu; exact reRun_mk rfl (by first | (go_simp; with_reducible rfl) | (go_simp; done)) (holds_at rfl)) | (rcases hu with rfl | rfl <;> exact reRun_mk rfl (by first | (go_simp; with_reducible rfl) | (go_simp; done)) (holds_at rfl)) | (rcases hu with rfl | rfl | rfl <;> exact reRun_mk rfl (by first | (go_simp; with_reducible rfl) | (go_simp; done)) (holds_at rfl)))) ?_; clear hK K; try simp only [Act.put, List.setIfInBounds_toArray, List.set_cons_zero, List.set_cons_succ])
              (repeat (first | (apply can0; (· rfl); (· rfl); (· (intro w'; first | (go_simp; with_reducible rfl) | (go_simp; done))); simp only [Act.put, List.setIfInBounds_toArray, List.set_cons_zero, List.set_cons_succ]) | (apply can1; (· rfl); (· rfl); (· (first | (go_simp; with_reducible rfl) | (go_simp; done))); simp only [Act.put, List.setIfInBounds_toArray, List.set_cons_zero, List.set_cons_succ]) | (apply canN; (· rfl); (· rfl); simp only [Act.put, List.setIfInBounds_toArray, List.set_cons_zero, List.set_cons_succ]) | (apply canN1; (· rfl); (· rfl); simp only [Act.put, List.setIfInBounds_toArray, List.set_cons_zero, List.set_cons_succ]) | (apply can0; (· rfl); (· (go_simp; done)); (· (intro w'; first | (go_simp; with_reducible rfl) | (go_simp; done))); simp only [Act.put, List.setIfInBounds_toArray, List.set_cons_zero, List.set_cons_succ]) | (apply can1; (· rfl); (· (go_simp; done)); (· (first | (go_simp; with_reducible rfl) | (go_simp; done))); simp only [Act.put, List.setIfInBounds_toArray, List.set_cons_zero, List.set_cons_succ]) | (apply canN; (· rfl); (· (go_simp; done)); simp only [Act.put, List.setIfInBounds_toArray, List.set_cons_zero, List.set_cons_succ]) | (apply canN1; (· rfl); (· (go_simp; done)); simp only [Act.put, List.setIfInBounds_toArray, List.set_cons_zero, List.set_cons_succ])))
              refine canW rfl [] rfl (fun K hK => ?_)
              go_simp
              go_at_call 17
              refine (t_turn HT4.out c true).mono ?_
              rintro e w5 ⟨rfl, hT5, hK5⟩
              have hP5 := hK5 _ _ hP4
              have HT5 := Lib.hid hT5
              clear hT5 hK5
              (refine hK _ _ (fun u hu => by cases hu) ?_; clear hK K; try simp only [Act.put, List.setIfInBounds_toArray, List.set_cons_zero, List.set_cons_succ])
              (repeat (first | (apply can0; (· rfl); (· rfl); (· (intro w'; first | (go_simp; with_reducible rfl) | (go_simp; done))); simp only [Act.put, List.setIfInBounds_toArray, List.set_cons_zero, List.set_cons_succ]) | (apply can1; (· rfl); (· rfl); (· (first | (go_simp; with_reducible rfl) | (go_simp; done))); simp only [Act.put, List.setIfInBounds_toArray, List.set_cons_zero, List.set_cons_succ]) | (apply canN; (· rfl); (· rfl); simp only [Act.put, List.setIfInBounds_toArray, List.set_cons_zero, List.set_cons_succ]) | (apply canN1; (· rfl); (· rfl); simp only [Act.put, List.setIfInBounds_toArray, List.set_cons_zero, List.set_cons_succ]) | (apply can0; (· rfl); (· (go_simp; done)); (· (intro w'; first | (go_simp; with_reducible rfl) | (go_simp; done))); simp only [Act.put, List.setIfInBounds_toArray, List.set_cons_zero, List.set_cons_succ]) | (apply can1; (· rfl); (· (go_simp; done)); (· (first | (go_simp; with_reducible rfl) | (go_simp; done))); simp only [Act.put, List.setIfInBounds_toArray, List.set_cons_zero, List.set_cons_succ]) | (apply canN; (· rfl); (· (go_simp; done)); simp only [Act.put, List.setIfInBounds_toArray, List.set_cons_zero, List.set_cons_succ]) | (apply canN1; (· rfl); (· (go_simp; done)); simp only [Act.put, List.setIfInBounds_toArray, List.set_cons_zero, List.set_cons_succ])))
              refine canE ?_
              go_wp2
              go_meet
              exact ⟨rfl, _, by rw [setAt_len]; exact HL.out, HT5.out, hP5⟩
            · subst k1
              go_upto_region 18 with (fail)
              refine wp_one [2, 6] [3, 7] [(3, [6])] [0, 1, 2, 4, 5, 6, 3, 7, 8, 9] rfl (by kernel_rfl) (fun _ _ _ _ _ h => h) ?_; simp only [List.map_cons, List.map_nil, List.getElem?_toArray, List.getElem?_cons_zero, List.getElem?_cons_succ]
              (repeat (first | (apply can0; (· rfl); (· rfl); (· (intro w'; first | (go_simp; with_reducible rfl) | (go_simp; done))); simp only [Act.put, List.setIfInBounds_toArray, List.set_cons_zero, List.set_cons_succ]) | (apply can1; (· rfl); (· rfl); (· (first | (go_simp; with_reducible rfl) | (go_simp; done))); simp only [Act.put, List.setIfInBounds_toArray, List.set_cons_zero, List.set_cons_succ]) | (apply canN; (· rfl); (· rfl); simp only [Act.put, List.setIfInBounds_toArray, List.set_cons_zero, List.set_cons_succ]) | (apply canN1; (· rfl); (· rfl); simp only [Act.put, List.setIfInBounds_toArray, List.set_cons_zero, List.set_cons_succ]) | (apply can0; (· rfl); (· (go_simp; done)); (· (intro w'; first | (go_simp; with_reducible rfl) | (go_simp; done))); simp only [Act.put, List.setIfInBounds_toArray, List.set_cons_zero, List.set_cons_succ]) | (apply can1; (· rfl); (· (go_simp; done)); (· (first | (go_simp; with_reducible rfl) | (go_simp; done))); simp only [Act.put, List.setIfInBounds_toArray, List.set_cons_zero, List.set_cons_succ]) | (apply canN; (· rfl); (· (go_simp; done)); simp only [Act.put, List.setIfInBounds_toArray, List.set_cons_zero, List.set_cons_succ]) | (apply canN1; (· rfl); (· (go_simp; done)); simp only [Act.put, List.setIfInBounds_toArray, List.set_cons_zero, List.set_cons_succ])))
              refine canW rfl [6] rfl (fun K hK => ?_)
              go_simp
              go_at_call 14
              refine (t_clr (HT.out.kept (Chg.refl wD nob).drew) c).mono ?_
              rintro e w4 ⟨rfl, hT4, hK4⟩
              have hP4 := hK4 _ _ hP
              have hc4 : w4.cell? ⟨p, 1, none⟩ = some (.int .i64 c) := by rw [hP4.cell]; rfl
              have HT4 := Lib.hid hT4
              clear hT4 hK4
              (refine hK _ _ (fun u hu => by simp only [List.mem_cons, List.not_mem_nil, or_false] at hu; (first | (subst hu; exact reRun_mk rfl (by first | (go_simp; with_reducible rfl) | (go_simp; done)) (holds_at rfl)) | (rcases hu with rfl | rfl <;> exact reRun_mk rfl (by first | (go_simp; with_reducible rfl) | (go_simp; done)) (holds_at rfl)) | (rcases hu with rfl | rfl | rfl <;> exact reRun_mk rfl (by first | (go_simp; with_reducible rfl) | (go_simp; done)) (holds_at rfl)))) ?_; clear hK K; try simp only [Act.put, List.setIfInBounds_toArray, List.set_cons_zero, List.set_cons_succ])
              (repeat (first | (apply can0; (· rfl); (· rfl); (· (intro w'; first | (go_simp; with_reducible rfl) | (go_simp; done))); simp only [Act.put, List.setIfInBounds_toArray, List.set_cons_zero, List.set_cons_succ]) | (apply can1; (· rfl); (· rfl); (· (first | (go_simp; with_reducible rfl) | (go_simp; done))); simp only [Act.put, List.setIfInBounds_toArray, List.set_cons_zero, List.set_cons_succ]) | (apply canN; (· rfl); (· rfl); simp only [Act.put, List.setIfInBounds_toArray, List.set_cons_zero, List.set_cons_succ]) | (apply canN1; (· rfl); (· rfl); simp only [Act.put, List.setIfInBounds_toArray, List.set_cons_zero, List.set_cons_succ]) | (apply can0; (· rfl); (· (go_simp; done)); (· (intro w'; first | (go_simp; with_reducible rfl) | (go_simp; done))); simp only [Act.put, List.setIfInBounds_toArray, List.set_cons_zero, List.set_cons_succ]) | (apply can1; (· rfl); (· (go_simp; done)); (· (first | (go_simp; with_reducible rfl) | (go_simp; done))); simp only [Act.put, List.setIfInBounds_toArray, List.set_cons_zero, List.set_cons_succ]) | (apply canN; (· rfl); (· (go_simp; done)); simp only [Act.put, List.setIfInBounds_toArray, List.set_cons_zero, List.set_cons_succ]) | (apply canN1; (· rfl); (· (go_simp; done)); simp only [Act.put, List.setIfInBounds_toArray, List.set_cons_zero, List.set_cons_succ])))
              refine canW rfl [] rfl (fun K hK => ?_)
              go_simp
              go_at_call 17
              refine (t_turn HT4.out c false).mono ?_
              rintro e w5 ⟨rfl, hT5, hK5⟩
              have hP5 := hK5 _ _ hP4
              have HT5 := Lib.hid hT5
              clear hT5 hK5
              (refine hK _ _ (fun u hu => by cases hu) ?_; clear hK K; try simp only [Act.put, List.setIfInBounds_toArray, List.set_cons_zero, List.set_cons_succ])
              (repeat (first | (apply can0; (· rfl); (· rfl); (· (intro w'; first | (go_simp; with_reducible rfl) | (go_simp; done))); simp only [Act.put, List.setIfInBounds_toArray, List.set_cons_zero, List.set_cons_succ]) | (apply can1; (· rfl); (· rfl); (· (first | (go_simp; with_reducible rfl) | (go_simp; done))); simp only [Act.put, List.setIfInBounds_toArray, List.set_cons_zero, List.set_cons_succ]) | (apply canN; (· rfl); (· rfl); simp only [Act.put, List.setIfInBounds_toArray, List.set_cons_zero, List.set_cons_succ]) | (apply canN1; (· rfl); (· rfl); simp only [Act.put, List.setIfInBounds_toArray, List.set_cons_zero, List.set_cons_succ]) | (apply can0; (· rfl); (· (go_simp; done)); (· (intro w'; first | (go_simp; with_reducible rfl) | (go_simp; done))); simp only [Act.put, List.setIfInBounds_toArray, List.set_cons_zero, List.set_cons_succ]) | (apply can1; (· rfl); (· (go_simp; done)); (· (first | (go_simp; with_reducible rfl) | (go_simp; done))); simp only [Act.put, List.setIfInBounds_toArray, List.set_cons_zero, List.set_cons_succ]) | (apply canN; (· rfl); (· (go_simp; done)); simp only [Act.put, List.setIfInBounds_toArray, List.set_cons_zero, List.set_cons_succ]) | (apply canN1; (· rfl); (· (go_simp; done)); simp only [Act.put, List.setIfInBounds_toArray, List.set_cons_zero, List.set_cons_succ])))
              refine canE ?_
              go_wp2
              go_meet
              exact ⟨rfl, _, by rw [setAt_len]; exact HL.out, HT5.out, hP5⟩
            · subst k2
              go_wp2_with fail
              go_at_call 8
              refine (t_clearAll HT.out HL.out).mono ?_
              rintro e w4 ⟨rfl, hT4, hK4⟩
              have hP4 := hK4 _ _ hP
              have HT4 := Lib.hid hT4
              have HP4 := Lib.hid hP4
              clear hT4 hK4 HT hP h0 h1 hP4
              go_wp2_with fail
              go_loopw [12] (fun i wt => ∃ j : Nat, j ≤ l.length ∧ i = .int .i64 j ∧ Hid (Two w wt b x (List.replicate l.length false) (List.replicate j false ++ l.drop j) ∧ Blk wt p 40 #[.int .i64 2, .int .i64 c, .int .i64 n])) (fun i _ => l.length - (intOf i).toNat)
              case atStart => exact ⟨0, Nat.zero_le _, rfl, by simpa using HT4.out, HP4.out⟩
              case round =>
                obtain ⟨j, hj, rfl, HJ⟩ := hrel
                clear HT4 HP4
                have hlj : (List.replicate j false ++ l.drop j).length = l.length := by simp; omega
                obtain ⟨ax, cx, hcx, hx1, hx2⟩ := cellR HJ.out.1
                rw [hlj] at hcx hx1
                by_cases hjl : j < l.length
                · have hjn : (j : Int) < (l.length : Int) := by omega
                  have HLJ := Lib.hid hlj
                  clear hlj
                  go_wp2_with fail
                  go_at_call 17
                  refine (t_turn HJ.out.1 j false).mono ?_
                  rintro e w5 ⟨rfl, hT5, hK5⟩
                  have hP5 := hK5 _ _ HJ.out.2
                  have HT5 := Lib.hid hT5
                  have HP5 := Lib.hid hP5
                  clear hT5 hK5 hP5 hcx
                  go_wp2
                  go_roundw
                  case rel =>
                    refine ⟨j + 1, by omega, by go_num, ?_, HP5.out⟩
                    have := HT5.out
                    rwa [setAt, if_pos ⟨by omega, by rw [HLJ.out]; omega⟩, Int.toNat_natCast, show (List.replicate j false ++ l.drop j).set j false = List.replicate (j + 1) false ++ l.drop (j + 1) from clear_step hjl] at this
                  case measure => (simp [intOf] <;> omega)
                · obtain rfl : j = l.length := by omega
                  clear hlj
                  go_wp2_with fail
                  go_meet
                  refine ⟨rfl, List.replicate l.length false, by rw [List.length_replicate]; exact HL.out, ?_, HJ.out.2⟩
                  have := HJ.out.1
                  rwa [List.drop_length, List.append_nil] at this
            · subst k3
              obtain ⟨r, hr⟩ : ∃ r, (if 1 ≤ c ∧ c ≤ 200 then (0 : Int) else 1) = r := ⟨_, rfl⟩
              have HRR := Lib.hid hr
              clear hr
              go_upto_region 26 with (fail)
              refine wp_one [2, 6] [3, 7] [(3, [6])] [0, 1, 2, 4, 5, 6, 3, 7, 8, 9] rfl (by kernel_rfl) (fun _ _ _ _ _ h => h) ?_; simp only [List.map_cons, List.map_nil, List.getElem?_toArray, List.getElem?_cons_zero, List.getElem?_cons_succ]
              (repeat (first | (apply can0; (· rfl); (· rfl); (· (intro w'; first | (go_simp; with_reducible rfl) | (go_simp; done))); simp only [Act.put, List.setIfInBounds_toArray, List.set_cons_zero, List.set_cons_succ]) | (apply can1; (· rfl); (· rfl); (· (first | (go_simp; with_reducible rfl) | (go_simp; done))); simp only [Act.put, List.setIfInBounds_toArray, List.set_cons_zero, List.set_cons_succ]) | (apply canN; (· rfl); (· rfl); simp only [Act.put, List.setIfInBounds_toArray, List.set_cons_zero, List.set_cons_succ]) | (apply canN1; (· rfl); (· rfl); simp only [Act.put, List.setIfInBounds_toArray, List.set_cons_zero, List.set_cons_succ]) | (apply can0; (· rfl); (· (go_simp; done)); (· (intro w'; first | (go_simp; with_reducible rfl) | (go_simp; done))); simp only [Act.put, List.setIfInBounds_toArray, List.set_cons_zero, List.set_cons_succ]) | (apply can1; (· rfl); (· (go_simp; done)); (· (first | (go_simp; with_reducible rfl) | (go_simp; done))); simp only [Act.put, List.setIfInBounds_toArray, List.set_cons_zero, List.set_cons_succ]) | (apply canN; (· rfl); (· (go_simp; done)); simp only [Act.put, List.setIfInBounds_toArray, List.set_cons_zero, List.set_cons_succ]) | (apply canN1; (· rfl); (· (go_simp; done)); simp only [Act.put, List.setIfInBounds_toArray, List.set_cons_zero, List.set_cons_succ])))
              refine canW rfl [6] rfl (fun K hK => ?_)
              go_simp
              go_at_call 15
              refine (t_resize (HT.out.kept (Chg.refl wD nob).drew) c).mono ?_
              rintro e w4 ⟨rfl, hT4, hK4⟩
              rw [HRR.out]
              have hP4 := hK4 _ _ hP
              have hc4 : w4.cell? ⟨p, 1, none⟩ = some (.int .i64 c) := by rw [hP4.cell]; rfl
              have HT4 := Lib.hid hT4
              clear hT4 hK4
              (refine hK _ _ (fun u hu => by simp only [List.mem_cons, List.not_mem_nil, or_false] at hu; (first | (subst hu; exact reRun_mk rfl (by first | (go_simp; with_reducible rfl) | (go_simp; done)) (holds_at rfl)) | (rcases hu with rfl | rfl <;> exact reRun_mk rfl (by first | (go_simp; with_reducible rfl) | (go_simp; done)) (holds_at rfl)) | (rcases hu with rfl | rfl | rfl <;> exact reRun_mk rfl (by first | (go_simp; with_reducible rfl) | (go_simp; done)) (holds_at rfl)))) ?_; clear hK K; try simp only [Act.put, List.setIfInBounds_toArray, List.set_cons_zero, List.set_cons_succ])
              (repeat (first | (apply can0; (· rfl); (· rfl); (· (intro w'; first | (go_simp; with_reducible rfl) | (go_simp; done))); simp only [Act.put, List.setIfInBounds_toArray, List.set_cons_zero, List.set_cons_succ]) | (apply can1; (· rfl); (· rfl); (· (first | (go_simp; with_reducible rfl) | (go_simp; done))); simp only [Act.put, List.setIfInBounds_toArray, List.set_cons_zero, List.set_cons_succ]) | (apply canN; (· rfl); (· rfl); simp only [Act.put, List.setIfInBounds_toArray, List.set_cons_zero, List.set_cons_succ]) | (apply canN1; (· rfl); (· rfl); simp only [Act.put, List.setIfInBounds_toArray, List.set_cons_zero, List.set_cons_succ]) | (apply can0; (· rfl); (· (go_simp; done)); (· (intro w'; first | (go_simp; with_reducible rfl) | (go_simp; done))); simp only [Act.put, List.setIfInBounds_toArray, List.set_cons_zero, List.set_cons_succ]) | (apply can1; (· rfl); (· (go_simp; done)); (· (first | (go_simp; with_reducible rfl) | (go_simp; done))); simp only [Act.put, List.setIfInBounds_toArray, List.set_cons_zero, List.set_cons_succ]) | (apply canN; (· rfl); (· (go_simp; done)); simp only [Act.put, List.setIfInBounds_toArray, List.set_cons_zero, List.set_cons_succ]) | (apply canN1; (· rfl); (· (go_simp; done)); simp only [Act.put, List.setIfInBounds_toArray, List.set_cons_zero, List.set_cons_succ])))
              refine canW rfl [] rfl (fun K hK => ?_)
              go_simp
              go_at_call 18
              refine (t_rresize HT4.out c).mono ?_
              rintro e w5 ⟨rfl, hT5, hK5⟩
              rw [HRR.out]
              have hP5 := hK5 _ _ hP4
              have HT5 := Lib.hid hT5
              clear hT5 hK5
              (refine hK _ _ (fun u hu => by cases hu) ?_; clear hK K; try simp only [Act.put, List.setIfInBounds_toArray, List.set_cons_zero, List.set_cons_succ])
              (repeat (first | (apply can0; (· rfl); (· rfl); (· (intro w'; first | (go_simp; with_reducible rfl) | (go_simp; done))); simp only [Act.put, List.setIfInBounds_toArray, List.set_cons_zero, List.set_cons_succ]) | (apply can1; (· rfl); (· rfl); (· (first | (go_simp; with_reducible rfl) | (go_simp; done))); simp only [Act.put, List.setIfInBounds_toArray, List.set_cons_zero, List.set_cons_succ]) | (apply canN; (· rfl); (· rfl); simp only [Act.put, List.setIfInBounds_toArray, List.set_cons_zero, List.set_cons_succ]) | (apply canN1; (· rfl); (· rfl); simp only [Act.put, List.setIfInBounds_toArray, List.set_cons_zero, List.set_cons_succ]) | (apply can0; (· rfl); (· (go_simp; done)); (· (intro w'; first | (go_simp; with_reducible rfl) | (go_simp; done))); simp only [Act.put, List.setIfInBounds_toArray, List.set_cons_zero, List.set_cons_succ]) | (apply can1; (· rfl); (· (go_simp; done)); (· (first | (go_simp; with_reducible rfl) | (go_simp; done))); simp only [Act.put, List.setIfInBounds_toArray, List.set_cons_zero, List.set_cons_succ]) | (apply canN; (· rfl); (· (go_simp; done)); simp only [Act.put, List.setIfInBounds_toArray, List.set_cons_zero, List.set_cons_succ]) | (apply canN1; (· rfl); (· (go_simp; done)); simp only [Act.put, List.setIfInBounds_toArray, List.set_cons_zero, List.set_cons_succ])))
              refine canE ?_
              go_wp2
              go_meet
              exact ⟨rfl, _, resized_len l c HL.out, HT5.out, hP5⟩
            · have e0 : (kd == 0) = false := by simpa using k4.1
              have e1 : (kd == 1) = false := by simpa using k4.2.1
              have e2 : (kd == 2) = false := by simpa using k4.2.2.1
              have e3 : (kd == 3) = false := by simpa using k4.2.2.2
              clear k4
              go_wp2_with fail
              go_meet
              exact ⟨rfl, l, HL.out, HT.out, hP⟩
          case rest =>
            obtain ⟨rfl, l', HI⟩ := hcut
            clear HT HL hP h0 h1
            have hP := HI.out.2.2
            have h1 : wc.cell? ⟨p, 1, none⟩ = some (.int .i64 c) := by rw [hP.cell]; rfl
            have h2 : wc.cell? ⟨p, 2, none⟩ = some (.int .i64 n) := by rw [hP.cell]; rfl
            go_upto_region 27 with (fail)
            refine wp_one [13, 15, 19, 21, 28, 30, 34, 36] [4, 6, 7, 16, 22, 31, 37] [(16, [19, 21]), (31, [34, 36])] [0, 1, 2, 3, 5, 4, 6, 7, 8, 9, 10, 11, 12, 13, 14, 15, 17, 18, 19, 20, 21, 16, 22, 23, 24, 25, 26, 27, 28, 29, 30, 32, 33, 34, 35, 36, 31, 37, 38, 39] rfl (by kernel_rfl) (fun _ _ _ _ _ h => h) ?_; simp only [List.map_cons, List.map_nil, List.getElem?_toArray, List.getElem?_cons_zero, List.getElem?_cons_succ]
            (repeat (first | (apply can0; (· rfl); (· rfl); (· (intro w'; first | (go_simp; with_reducible rfl) | (go_simp; done))); simp only [Act.put, List.setIfInBounds_toArray, List.set_cons_zero, List.set_cons_succ]) | (apply can1; (· rfl); (· rfl); (· (first | (go_simp; with_reducible rfl) | (go_simp; done))); simp only [Act.put, List.setIfInBounds_toArray, List.set_cons_zero, List.set_cons_succ]) | (apply canN; (· rfl); (· rfl); simp only [Act.put, List.setIfInBounds_toArray, List.set_cons_zero, List.set_cons_succ]) | (apply canN1; (· rfl); (· rfl); simp only [Act.put, List.setIfInBounds_toArray, List.set_cons_zero, List.set_cons_succ]) | (apply can0; (· rfl); (· (go_simp; done)); (· (intro w'; first | (go_simp; with_reducible rfl) | (go_simp; done))); simp only [Act.put, List.setIfInBounds_toArray, List.set_cons_zero, List.set_cons_succ]) | (apply can1; (· rfl); (· (go_simp; done)); (· (first | (go_simp; with_reducible rfl) | (go_simp; done))); simp only [Act.put, List.setIfInBounds_toArray, List.set_cons_zero, List.set_cons_succ]) | (apply canN; (· rfl); (· (go_simp; done)); simp only [Act.put, List.setIfInBounds_toArray, List.set_cons_zero, List.set_cons_succ]) | (apply canN1; (· rfl); (· (go_simp; done)); simp only [Act.put, List.setIfInBounds_toArray, List.set_cons_zero, List.set_cons_succ])))
            refine canW rfl [] rfl (fun K hK => ?_)
            go_simp
            go_at_call 12
            have hTd := HI.out.2.1.kept (Chg.refl wc nob).drew
            refine (t_list hTd).mono ?_
            rintro e w1 ⟨v1, rfl, ho1, hc1⟩
            have HT1 := Lib.hid (hTd.kept hc1)
            have HP1 := Lib.hid (Blk.kept (w := wc.drew) hP hc1 id)
            have HO1 := Lib.hid ho1
            clear hTd ho1 hc1
            (refine hK _ _ (fun u hu => by cases hu) ?_; clear hK K; try simp only [Act.put, List.setIfInBounds_toArray, List.set_cons_zero, List.set_cons_succ])
            (repeat (first | (apply can0; (· rfl); (· rfl); (· (intro w'; first | (go_simp; with_reducible rfl) | (go_simp; done))); simp only [Act.put, List.setIfInBounds_toArray, List.set_cons_zero, List.set_cons_succ]) | (apply can1; (· rfl); (· rfl); (· (first | (go_simp; with_reducible rfl) | (go_simp; done))); simp only [Act.put, List.setIfInBounds_toArray, List.set_cons_zero, List.set_cons_succ]) | (apply canN; (· rfl); (· rfl); simp only [Act.put, List.setIfInBounds_toArray, List.set_cons_zero, List.set_cons_succ]) | (apply canN1; (· rfl); (· rfl); simp only [Act.put, List.setIfInBounds_toArray, List.set_cons_zero, List.set_cons_succ]) | (apply can0; (· rfl); (· (go_simp; done)); (· (intro w'; first | (go_simp; with_reducible rfl) | (go_simp; done))); simp only [Act.put, List.setIfInBounds_toArray, List.set_cons_zero, List.set_cons_succ]) | (apply can1; (· rfl); (· (go_simp; done)); (· (first | (go_simp; with_reducible rfl) | (go_simp; done))); simp only [Act.put, List.setIfInBounds_toArray, List.set_cons_zero, List.set_cons_succ]) | (apply canN; (· rfl); (· (go_simp; done)); simp only [Act.put, List.setIfInBounds_toArray, List.set_cons_zero, List.set_cons_succ]) | (apply canN1; (· rfl); (· (go_simp; done)); simp only [Act.put, List.setIfInBounds_toArray, List.set_cons_zero, List.set_cons_succ])))
            refine canW rfl [] rfl (fun K hK => ?_)
            go_simp
            go_at_call 20
            refine (t_rlist HT1.out).mono ?_
            rintro e w2 ⟨v2, rfl, ho2, hc2⟩
            have HT2 := Lib.hid (HT1.out.kept hc2)
            have HP2 := Lib.hid (HP1.out.kept hc2 id)
            have HO2 := Lib.hid ho2
            have HO1' := Lib.hid (HO1.out.kept hc2 (fun _ _ => id))
            clear HT1 HP1 HO1 ho2 hc2
            (refine hK _ _ (fun u hu => by cases hu) ?_; clear hK K; try simp only [Act.put, List.setIfInBounds_toArray, List.set_cons_zero, List.set_cons_succ])
            (repeat (first | (apply can0; (· rfl); (· rfl); (· (intro w'; first | (go_simp; with_reducible rfl) | (go_simp; done))); simp only [Act.put, List.setIfInBounds_toArray, List.set_cons_zero, List.set_cons_succ]) | (apply can1; (· rfl); (· rfl); (· (first | (go_simp; with_reducible rfl) | (go_simp; done))); simp only [Act.put, List.setIfInBounds_toArray, List.set_cons_zero, List.set_cons_succ]) | (apply canN; (· rfl); (· rfl); simp only [Act.put, List.setIfInBounds_toArray, List.set_cons_zero, List.set_cons_succ]) | (apply canN1; (· rfl); (· rfl); simp only [Act.put, List.setIfInBounds_toArray, List.set_cons_zero, List.set_cons_succ]) | (apply can0; (· rfl); (· (go_simp; done)); (· (intro w'; first | (go_simp; with_reducible rfl) | (go_simp; done))); simp only [Act.put, List.setIfInBounds_toArray, List.set_cons_zero, List.set_cons_succ]) | (apply can1; (· rfl); (· (go_simp; done)); (· (first | (go_simp; with_reducible rfl) | (go_simp; done))); simp only [Act.put, List.setIfInBounds_toArray, List.set_cons_zero, List.set_cons_succ]) | (apply canN; (· rfl); (· (go_simp; done)); simp only [Act.put, List.setIfInBounds_toArray, List.set_cons_zero, List.set_cons_succ]) | (apply canN1; (· rfl); (· (go_simp; done)); simp only [Act.put, List.setIfInBounds_toArray, List.set_cons_zero, List.set_cons_succ])))
            refine canW rfl [] rfl (fun K hK => ?_)
            go_simp
            go_at_call 19
            refine (h_ints w2 v1 v2 _ _ l' HO1'.out HO2.out HT2.out.len).mono ?_
            rintro e w3 ⟨rfl, hc3⟩
            have HT3 := Lib.hid (HT2.out.kept hc3)
            have hP3 := HP2.out.kept hc3 id
            have h13 : w3.cell? ⟨p, 1, none⟩ = some (.int .i64 c) := by rw [hP3.cell]; rfl
            have h23 : w3.cell? ⟨p, 2, none⟩ = some (.int .i64 n) := by rw [hP3.cell]; rfl
            clear HT2 HP2 HO2 HO1' hc3
            (refine hK _ _ (fun u hu => by cases hu) ?_; clear hK K; try simp only [Act.put, List.setIfInBounds_toArray, List.set_cons_zero, List.set_cons_succ])
            (repeat (first | (apply can0; (· rfl); (· rfl); (· (intro w'; first | (go_simp; with_reducible rfl) | (go_simp; done))); simp only [Act.put, List.setIfInBounds_toArray, List.set_cons_zero, List.set_cons_succ]) | (apply can1; (· rfl); (· rfl); (· (first | (go_simp; with_reducible rfl) | (go_simp; done))); simp only [Act.put, List.setIfInBounds_toArray, List.set_cons_zero, List.set_cons_succ]) | (apply canN; (· rfl); (· rfl); simp only [Act.put, List.setIfInBounds_toArray, List.set_cons_zero, List.set_cons_succ]) | (apply canN1; (· rfl); (· rfl); simp only [Act.put, List.setIfInBounds_toArray, List.set_cons_zero, List.set_cons_succ]) | (apply can0; (· rfl); (· (go_simp; done)); (· (intro w'; first | (go_simp; with_reducible rfl) | (go_simp; done))); simp only [Act.put, List.setIfInBounds_toArray, List.set_cons_zero, List.set_cons_succ]) | (apply can1; (· rfl); (· (go_simp; done)); (· (first | (go_simp; with_reducible rfl) | (go_simp; done))); simp only [Act.put, List.setIfInBounds_toArray, List.set_cons_zero, List.set_cons_succ]) | (apply canN; (· rfl); (· (go_simp; done)); simp only [Act.put, List.setIfInBounds_toArray, List.set_cons_zero, List.set_cons_succ]) | (apply canN1; (· rfl); (· (go_simp; done)); simp only [Act.put, List.setIfInBounds_toArray, List.set_cons_zero, List.set_cons_succ])))
            refine canW rfl [19, 21] rfl (fun K hK => ?_)
            go_simp
            go_at_call 10
            refine (t_next HT3.out c n HI.out.1 bc.1 bc.2 bn.1 bn.2).mono ?_
            rintro e w4 ⟨rfl, rfl⟩
            (refine hK _ _ (fun u hu => by simp only [List.mem_cons, List.not_mem_nil, or_false] at hu; (first | (subst hu; exact reRun_mk rfl (by first | (go_simp; with_reducible rfl) | (go_simp; done)) (holds_at rfl)) | (rcases hu with rfl | rfl <;> exact reRun_mk rfl (by first | (go_simp; with_reducible rfl) | (go_simp; done)) (holds_at rfl)) | (rcases hu with rfl | rfl | rfl <;> exact reRun_mk rfl (by first | (go_simp; with_reducible rfl) | (go_simp; done)) (holds_at rfl)))) ?_; clear hK K; try simp only [Act.put, List.setIfInBounds_toArray, List.set_cons_zero, List.set_cons_succ])
            (repeat (first | (apply can0; (· rfl); (· rfl); (· (intro w'; first | (go_simp; with_reducible rfl) | (go_simp; done))); simp only [Act.put, List.setIfInBounds_toArray, List.set_cons_zero, List.set_cons_succ]) | (apply can1; (· rfl); (· rfl); (· (first | (go_simp; with_reducible rfl) | (go_simp; done))); simp only [Act.put, List.setIfInBounds_toArray, List.set_cons_zero, List.set_cons_succ]) | (apply canN; (· rfl); (· rfl); simp only [Act.put, List.setIfInBounds_toArray, List.set_cons_zero, List.set_cons_succ]) | (apply canN1; (· rfl); (· rfl); simp only [Act.put, List.setIfInBounds_toArray, List.set_cons_zero, List.set_cons_succ]) | (apply can0; (· rfl); (· (go_simp; done)); (· (intro w'; first | (go_simp; with_reducible rfl) | (go_simp; done))); simp only [Act.put, List.setIfInBounds_toArray, List.set_cons_zero, List.set_cons_succ]) | (apply can1; (· rfl); (· (go_simp; done)); (· (first | (go_simp; with_reducible rfl) | (go_simp; done))); simp only [Act.put, List.setIfInBounds_toArray, List.set_cons_zero, List.set_cons_succ]) | (apply canN; (· rfl); (· (go_simp; done)); simp only [Act.put, List.setIfInBounds_toArray, List.set_cons_zero, List.set_cons_succ]) | (apply canN1; (· rfl); (· (go_simp; done)); simp only [Act.put, List.setIfInBounds_toArray, List.set_cons_zero, List.set_cons_succ])))
            refine canW rfl [] rfl (fun K hK => ?_)
            go_simp
            go_at_call 21
            refine (t_rnext HT3.out c n HI.out.1 bc.1 bc.2 bn.1 bn.2).mono ?_
            rintro e w4 ⟨rfl, rfl⟩
            (refine hK _ _ (fun u hu => by cases hu) ?_; clear hK K; try simp only [Act.put, List.setIfInBounds_toArray, List.set_cons_zero, List.set_cons_succ])
            (repeat (first | (apply can0; (· rfl); (· rfl); (· (intro w'; first | (go_simp; with_reducible rfl) | (go_simp; done))); simp only [Act.put, List.setIfInBounds_toArray, List.set_cons_zero, List.set_cons_succ]) | (apply can1; (· rfl); (· rfl); (· (first | (go_simp; with_reducible rfl) | (go_simp; done))); simp only [Act.put, List.setIfInBounds_toArray, List.set_cons_zero, List.set_cons_succ]) | (apply canN; (· rfl); (· rfl); simp only [Act.put, List.setIfInBounds_toArray, List.set_cons_zero, List.set_cons_succ]) | (apply canN1; (· rfl); (· rfl); simp only [Act.put, List.setIfInBounds_toArray, List.set_cons_zero, List.set_cons_succ]) | (apply can0; (· rfl); (· (go_simp; done)); (· (intro w'; first | (go_simp; with_reducible rfl) | (go_simp; done))); simp only [Act.put, List.setIfInBounds_toArray, List.set_cons_zero, List.set_cons_succ]) | (apply can1; (· rfl); (· (go_simp; done)); (· (first | (go_simp; with_reducible rfl) | (go_simp; done))); simp only [Act.put, List.setIfInBounds_toArray, List.set_cons_zero, List.set_cons_succ]) | (apply canN; (· rfl); (· (go_simp; done)); simp only [Act.put, List.setIfInBounds_toArray, List.set_cons_zero, List.set_cons_succ]) | (apply canN1; (· rfl); (· (go_simp; done)); simp only [Act.put, List.setIfInBounds_toArray, List.set_cons_zero, List.set_cons_succ])))
            refine canW rfl [34, 36] rfl (fun K hK => ?_)
            go_simp
            go_at_call 11
            refine (t_prev HT3.out c n HI.out.1 bc.1 bc.2 bn.1 bn.2).mono ?_
            rintro e w4 ⟨rfl, rfl⟩
            (refine hK _ _ (fun u hu => by simp only [List.mem_cons, List.not_mem_nil, or_false] at hu; (first | (subst hu; exact reRun_mk rfl (by first | (go_simp; with_reducible rfl) | (go_simp; done)) (holds_at rfl)) | (rcases hu with rfl | rfl <;> exact reRun_mk rfl (by first | (go_simp; with_reducible rfl) | (go_simp; done)) (holds_at rfl)) | (rcases hu with rfl | rfl | rfl <;> exact reRun_mk rfl (by first | (go_simp; with_reducible rfl) | (go_simp; done)) (holds_at rfl)))) ?_; clear hK K; try simp only [Act.put, List.setIfInBounds_toArray, List.set_cons_zero, List.set_cons_succ])
            (repeat (first | (apply can0; (· rfl); (· rfl); (· (intro w'; first | (go_simp; with_reducible rfl) | (go_simp; done))); simp only [Act.put, List.setIfInBounds_toArray, List.set_cons_zero, List.set_cons_succ]) | (apply can1; (· rfl); (· rfl); (· (first | (go_simp; with_reducible rfl) | (go_simp; done))); simp only [Act.put, List.setIfInBounds_toArray, List.set_cons_zero, List.set_cons_succ]) | (apply canN; (· rfl); (· rfl); simp only [Act.put, List.setIfInBounds_toArray, List.set_cons_zero, List.set_cons_succ]) | (apply canN1; (· rfl); (· rfl); simp only [Act.put, List.setIfInBounds_toArray, List.set_cons_zero, List.set_cons_succ]) | (apply can0; (· rfl); (· (go_simp; done)); (· (intro w'; first | (go_simp; with_reducible rfl) | (go_simp; done))); simp only [Act.put, List.setIfInBounds_toArray, List.set_cons_zero, List.set_cons_succ]) | (apply can1; (· rfl); (· (go_simp; done)); (· (first | (go_simp; with_reducible rfl) | (go_simp; done))); simp only [Act.put, List.setIfInBounds_toArray, List.set_cons_zero, List.set_cons_succ]) | (apply canN; (· rfl); (· (go_simp; done)); simp only [Act.put, List.setIfInBounds_toArray, List.set_cons_zero, List.set_cons_succ]) | (apply canN1; (· rfl); (· (go_simp; done)); simp only [Act.put, List.setIfInBounds_toArray, List.set_cons_zero, List.set_cons_succ])))
            refine canW rfl [] rfl (fun K hK => ?_)
            go_simp
            go_at_call 22
            refine (t_rprev HT3.out c n HI.out.1 bc.1 bc.2 bn.1 bn.2).mono ?_
            rintro e w4 ⟨rfl, rfl⟩
            (refine hK _ _ (fun u hu => by cases hu) ?_; clear hK K; try simp only [Act.put, List.setIfInBounds_toArray, List.set_cons_zero, List.set_cons_succ])
            (repeat (first | (apply can0; (· rfl); (· rfl); (· (intro w'; first | (go_simp; with_reducible rfl) | (go_simp; done))); simp only [Act.put, List.setIfInBounds_toArray, List.set_cons_zero, List.set_cons_succ]) | (apply can1; (· rfl); (· rfl); (· (first | (go_simp; with_reducible rfl) | (go_simp; done))); simp only [Act.put, List.setIfInBounds_toArray, List.set_cons_zero, List.set_cons_succ]) | (apply canN; (· rfl); (· rfl); simp only [Act.put, List.setIfInBounds_toArray, List.set_cons_zero, List.set_cons_succ]) | (apply canN1; (· rfl); (· rfl); simp only [Act.put, List.setIfInBounds_toArray, List.set_cons_zero, List.set_cons_succ]) | (apply can0; (· rfl); (· (go_simp; done)); (· (intro w'; first | (go_simp; with_reducible rfl) | (go_simp; done))); simp only [Act.put, List.setIfInBounds_toArray, List.set_cons_zero, List.set_cons_succ]) | (apply can1; (· rfl); (· (go_simp; done)); (· (first | (go_simp; with_reducible rfl) | (go_simp; done))); simp only [Act.put, List.setIfInBounds_toArray, List.set_cons_zero, List.set_cons_succ]) | (apply canN; (· rfl); (· (go_simp; done)); simp only [Act.put, List.setIfInBounds_toArray, List.set_cons_zero, List.set_cons_succ]) | (apply canN1; (· rfl); (· (go_simp; done)); simp only [Act.put, List.setIfInBounds_toArray, List.set_cons_zero, List.set_cons_succ])))
            refine canE ?_
            go_wp2
            go_roundw
            case rel => exact ⟨k + 1, by omega, by go_num, l', HI.out.1, HT3.out⟩
            case measure => (simp [intOf] <;> omega)
        · obtain rfl : k = len1 := by omega
          go_wp2_with fail
          go_at_call 6
          refine (first_any _).mono ?_
          rintro e wC ⟨rfl, hC⟩
          have HC := Lib.hid hC
          clear hC
          go_wp2_with fail
          go_ret
          exact ⟨rfl, HI.out.2.chg.trans HC.out fun _ _ h => h⟩
    · go_enter Try.func5, Try.ntmps5
      have hln : ¬ (200 : Int) < (len1 : Int) := by omega
      go_wp2_with fail
      go_at_call 6
      refine (first_any w).mono ?_
      rintro e wA ⟨rfl, hA⟩
      have HA := Lib.hid hA
      clear hA
      go_wp2_with fail
      go_at_call 7
      refine (new_not wA a0 (by omega)).mono ?_
      rintro e wB ⟨rfl, hB⟩
      have HB := Lib.hid hB
      clear hB
      go_wp2_with fail
      go_at_call 16
      refine (rnew_not wB a0 (by omega)).mono ?_
      rintro e wC ⟨rfl, rfl⟩
      go_wp2_with fail
      refine wp_loop_rounds 1 ?_
      rw [rounds_succ]
      go_wp2_with fail
      go_at_call 6
      refine (first_any _).mono ?_
      rintro e wD ⟨rfl, hC⟩
      have HC := Lib.hid hC
      clear hC
      go_wp2_with fail
      go_ret
      exact ⟨rfl, (HA.out.trans HB.out fun _ _ h => h).trans HC.out fun _ _ h => h⟩
  · have hln : (200 : Int) < (len1 : Int) := by omega
    go_enter Try.func5, Try.ntmps5
    go_wp2_with fail
    go_at_call 6
    refine (first_any w).mono ?_
    rintro e wA ⟨rfl, hA⟩
    have HA := Lib.hid hA
    clear hA
    go_wp2_with fail
    go_at_call 6
    refine (first_any _).mono ?_
    rintro e wD ⟨rfl, hC⟩
    have HC := Lib.hid hC
    clear hC
    go_wp2_with fail
    go_ret
    exact ⟨rfl, HA.out.trans HC.out fun _ _ h => h⟩
end Go.Proofs.Ytadpjgjkicmhiaa
