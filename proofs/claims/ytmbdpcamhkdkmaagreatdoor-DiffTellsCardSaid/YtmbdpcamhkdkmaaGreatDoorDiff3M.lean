/-
  Package diff: Make.
-/
import Derived.Test.YtmbdpcamhkdkmaaGreatDoorDiff2M
import Derived.Test.YtmbdpcamhkdkmaaGreatDoorCl
namespace Go.Proofs.YtmbdpcamhkdkmaaGreatDoor
open Go.RowKit
set_option linter.unusedVariables false
set_option linter.unusedSimpArgs false

theorem headD_len (s : Sc) : (headD s).length ≤ 40 + s.t.size := by
  have h1 := varL_len 9 (u64N s.y) (by have := u64N_lt s.y; omega)
  have h2 := varL_len 9 (u64N s.x) (by have := u64N_lt s.x; omega)
  have h3 := varL_len 9 (bitN s.h) (by have := bitN_b s.h; omega)
  have h4 := varL_len 9 (u64N s.t.size) (by have := u64N_lt s.t.size; omega)
  have h5 := numsS_len s.t
  unfold headD
  simp only [List.length_append]
  omega
theorem keyD_len (s : Sc) : s.key.length ≤ 60 + s.t.size + 60 * s.l.length := by
  have h1 := varsL_len _ (headN_lt s.r s.c s.y s.x s.h s.t)
  have h2 := numsS_len s.t
  have h3 := runsL_len _ s.l (Nat.le_refl _)
  rw [show (headN s.r s.c s.y s.x s.h s.t).length = 6 from rfl] at h1
  unfold Sc.key keyL
  simp only [List.length_append]
  omega
theorem runsL_b : ∀ (m : Nat) (l : List Ce), l.length ≤ m → ∀ x ∈ runsL l, 0 ≤ x ∧ x ≤ 255
  | _, [], _, x, hx => by rw [runsL] at hx; cases hx
  | 0, c :: t, h, x, hx => by simp at h
  | m + 1, c :: t, h, x, hx => by
    rw [runsL] at hx
    rcases List.mem_append.1 hx with hx | hx
    · obtain ⟨n, _, h⟩ := List.mem_flatMap.1 hx
      exact varL_byte n x h
    · exact runsL_b m (t.drop (runLen c t)) (by simp at h ⊢; omega) x hx
theorem strL_b : ∀ (m : Nat) (gap : Nat) (s t : List Ce), s.length ≤ m → ∀ x ∈ strL gap s t, 0 ≤ x ∧ x ≤ 255 := by
  intro m
  induction m with
  | zero =>
    intro gap s t hm x hx
    obtain rfl : s = [] := List.length_eq_zero_iff.1 (by omega)
    rw [strL_nil] at hx
    cases hx
  | succ m ih =>
    intro gap s t hm x hx
    cases s with
    | nil => rw [strL_nil] at hx; cases hx
    | cons a s =>
      cases t with
      | nil => rw [strL] at hx; cases hx; intros; simp_all
      | cons b t =>
        by_cases hab : a = b
        · subst hab
          rw [strL_same] at hx
          exact ih (gap + 1) s t (by simpa using hm) x hx
        · rw [strL_other hab] at hx
          rcases List.mem_append.1 hx with hx | hx
          · exact varL_byte _ x hx
          rcases List.mem_append.1 hx with hx | hx
          · exact varL_byte _ x hx
          rcases List.mem_append.1 hx with hx | hx
          · exact runsL_b _ _ (Nat.le_refl _) x hx
          · exact ih 0 _ _ (by simp at hm ⊢; omega) x hx
theorem diffL_b (a b : Sc) : ∀ x ∈ diffL a b, 0 ≤ x ∧ x ≤ 255 := by
  intro x hx
  unfold diffL at hx
  split at hx
  · rcases List.mem_cons.1 hx with rfl | hx
    · decide
    · exact key_byte b x hx
  · rcases List.mem_cons.1 hx with rfl | hx
    · decide
    rcases List.mem_append.1 hx with hx | hx
    · unfold headD at hx
      rcases List.mem_append.1 hx with hx | hx
      · exact varL_byte _ x hx
      rcases List.mem_append.1 hx with hx | hx
      · exact varL_byte _ x hx
      rcases List.mem_append.1 hx with hx | hx
      · exact varL_byte _ x hx
      rcases List.mem_append.1 hx with hx | hx
      · exact varL_byte _ x hx
      · exact numsS_byte _ x hx
    · exact strL_b _ 0 _ _ (Nat.le_refl _) x hx
theorem Bx.lit1 (w : World) (k : Int) : Bx w (w.alloc (.cells #[.int .u8 k] 5)) (.slice (some ⟨w.heap.size, 0, none⟩) 1 1) [k] :=
  ⟨Own.lit w 5 #[.int .u8 k] (by (show 1 ≤ _); decide), (Chg.refl w nob).alloc _, fun j hj => by cases hj; exact Nat.le_refl _⟩
def okE (b : Bool) : Int := if b then 0 else 1
set_option maxRecDepth 100000 in
set_option maxHeartbeats 8000000 in
theorem dmake_any (w : World) (a b : Sc) (va vb : Value) (ha : Rd w 5 va a.l.length (cellsV a.l)) (hb : Rd w 5 vb b.l.length (cellsV b.l)) (hla : a.l.length ≤ 100000) (hlb : b.l.length ≤ 100000) (hsa : a.t.size ≤ 100000) (hsb : b.t.size ≤ 100000) (ht : Tab w) :
    Calls Tryz.prog 6 #[scS a va, scS b vb] w fun e w' => ∃ v, e = .returned (.tuple #[v, .int .i64 (okE (a.may && b.may))]) ∧ Bx w w' v (if (a.may && b.may) = true then diffL a b else []) := by
  obtain ⟨aa, ca, rfl, _⟩ := ha.form
  obtain ⟨ab, cb, rfl, _⟩ := hb.form
  have HA := Lib.hid ha
  have HB := Lib.hid hb
  have HT := Lib.hid ht
  obtain ⟨m1, hm1⟩ : ∃ m, a.may = m := ⟨_, rfl⟩
  obtain ⟨m2, hm2⟩ : ∃ m, b.may = m := ⟨_, rfl⟩
  have HM1 := Lib.hid hm1
  have HM2 := Lib.hid hm2
  have hkl := keyD_len b
  have hhl := headD_len b
  rw [hm1, hm2]
  clear ha hb ht hm1 hm2
  go_enter Tryz.func6, Tryz.ntmps6
  go_upto_region 1 with (fail)
  obtain ⟨w1, hw⟩ : ∃ W, (w.alloc (.cells (scA a.r a.c (.slice aa a.l.length ca) a.y a.x a.h a.t) 24)).alloc (.cells (scA b.r b.c (.slice ab b.l.length cb) b.y b.x b.h b.t) 24) = W := ⟨_, rfl⟩
  have HX : Hid (Box2 w w1 w.heap.size (w.heap.size + 1) (scA a.r a.c (.slice aa a.l.length ca) a.y a.x a.h a.t) (scA b.r b.c (.slice ab b.l.length cb) b.y b.x b.h b.t)) := Lib.hid (by rw [← hw]; exact ⟨((Chg.refl w nob).alloc _).alloc _, (Blk.new w _ _).alloc _, Blk.new2' w _ _ _⟩)
  rw [hw]
  clear hw
  obtain ⟨ia, hia⟩ : ∃ i, w.heap.size = i := ⟨_, rfl⟩
  rw [hia] at HX ⊢
  clear hia
  obtain ⟨ib, hib⟩ : ∃ i, ia + 1 = i := ⟨_, rfl⟩
  rw [hib] at HX ⊢
  clear hib
  have ua0 := HX.out.a.cell 0
  have ua1 := HX.out.a.cell 1
  have ua2 := HX.out.a.cell 2
  have ua3 := HX.out.a.cell 3
  have ua4 := HX.out.a.cell 4
  have ua5 := HX.out.a.cell 5
  have ua6 := HX.out.a.cell 6
  have ub0 := HX.out.b.cell 0
  have ub1 := HX.out.b.cell 1
  have ub2 := HX.out.b.cell 2
  have ub3 := HX.out.b.cell 3
  have ub4 := HX.out.b.cell 4
  have ub5 := HX.out.b.cell 5
  have ub6 := HX.out.b.cell 6
  simp only [List.getElem?_toArray, List.getElem?_cons_zero, List.getElem?_cons_succ] at ua0 ua1 ua2 ua3 ua4 ua5 ua6 ub0 ub1 ub2 ub3 ub4 ub5 ub6
  have HMA := Lib.hid (may_sc w1 a (.slice aa a.l.length ca) (HA.out.kept HX.out.chg (fun _ _ => id)) (by omega) (by omega) (HT.out.kept HX.out.chg))
  rw [HM1.out] at HMA
  go_wp2_with fail
  go_at_call 14
  refine HMA.out.mono ?_
  rintro e w2 ⟨rfl, hck⟩
  replace HX := Lib.hid (HX.out.kept hck)
  clear ua0 ua1 ua2 ua3 ua4 ua5 ua6 ub0 ub1 ub2 ub3 ub4 ub5 ub6
  have ua0 := HX.out.a.cell 0
  have ua1 := HX.out.a.cell 1
  have ua2 := HX.out.a.cell 2
  have ua3 := HX.out.a.cell 3
  have ua4 := HX.out.a.cell 4
  have ua5 := HX.out.a.cell 5
  have ua6 := HX.out.a.cell 6
  have ub0 := HX.out.b.cell 0
  have ub1 := HX.out.b.cell 1
  have ub2 := HX.out.b.cell 2
  have ub3 := HX.out.b.cell 3
  have ub4 := HX.out.b.cell 4
  have ub5 := HX.out.b.cell 5
  have ub6 := HX.out.b.cell 6
  simp only [List.getElem?_toArray, List.getElem?_cons_zero, List.getElem?_cons_succ] at ua0 ua1 ua2 ua3 ua4 ua5 ua6 ub0 ub1 ub2 ub3 ub4 ub5 ub6
  clear hck HMA
  cases m1 with
  | false =>
    go_wp2
    go_ret2
    exact ⟨_, rfl, World.ownsRow_nil _ _ _ _, HX.out.chg, fun k hk => by cases hk⟩
  | true =>
    have HMB := Lib.hid (may_sc w2 b (.slice ab b.l.length cb) (HB.out.kept HX.out.chg (fun _ _ => id)) (by omega) (by omega) (HT.out.kept HX.out.chg))
    rw [HM2.out] at HMB
    go_wp2_with fail
    go_at_call 14
    refine HMB.out.mono ?_
    rintro e w3 ⟨rfl, hck⟩
    replace HX := Lib.hid (HX.out.kept hck)
    clear ua0 ua1 ua2 ua3 ua4 ua5 ua6 ub0 ub1 ub2 ub3 ub4 ub5 ub6
    have ua0 := HX.out.a.cell 0
    have ua1 := HX.out.a.cell 1
    have ua2 := HX.out.a.cell 2
    have ua3 := HX.out.a.cell 3
    have ua4 := HX.out.a.cell 4
    have ua5 := HX.out.a.cell 5
    have ua6 := HX.out.a.cell 6
    have ub0 := HX.out.b.cell 0
    have ub1 := HX.out.b.cell 1
    have ub2 := HX.out.b.cell 2
    have ub3 := HX.out.b.cell 3
    have ub4 := HX.out.b.cell 4
    have ub5 := HX.out.b.cell 5
    have ub6 := HX.out.b.cell 6
    simp only [List.getElem?_toArray, List.getElem?_cons_zero, List.getElem?_cons_succ] at ua0 ua1 ua2 ua3 ua4 ua5 ua6 ub0 ub1 ub2 ub3 ub4 ub5 ub6
    clear hck HMB
    cases m2 with
    | false =>
      go_wp2
      go_ret2
      exact ⟨_, rfl, World.ownsRow_nil _ _ _ _, HX.out.chg, fun k hk => by cases hk⟩
    | true =>
      have HEN : Hid (∀ w', Chg w w' nob → Calls Tryz.prog 15 #[scS b (.slice ab b.l.length cb)] w' fun e w'' => ∃ v, e = .returned (.tuple #[v, .int .i64 0]) ∧ Bx w' w'' v b.key) := Lib.hid (fun w' hc => by
        have h := kenc_sc w' b _ (HB.out.kept hc (fun _ _ => id)) (by omega) (by omega) (HT.out.kept hc)
        rw [HM2.out] at h
        exact h)
      by_cases hdiff : a.r ≠ b.r ∨ a.c ≠ b.c
      · have HD : Hid (diffL a b = [1] ++ b.key) := Lib.hid (if_pos hdiff)
        obtain ⟨q, hq⟩ : ∃ q, (a.r != b.r) = q := ⟨_, rfl⟩
        obtain ⟨q2, hq2⟩ : ∃ q, (a.c != b.c) = q := ⟨_, rfl⟩
        have hqq : (q || q2) = true := by
          rw [← hq, ← hq2]
          simpa using hdiff
        clear hdiff
        cases q with
        | true =>
          clear hqq hq2
          go_wp2_with fail
          go_at_call 15
          refine (HEN.out w3 HX.out.chg).mono ?_
          rintro e w4 ⟨vt, rfl, hbt⟩
          have hck := hbt.2.1
          have HV := Lib.hid hbt.1
          have HC := Lib.hid (HX.out.chg.trans hck (fun _ _ h => h))
          clear hbt hck ua0 ua1 ua2 ua3 ua4 ua5 ua6 ub0 ub1 ub2 ub3 ub4 ub5 ub6
          obtain ⟨K0, hK0⟩ : ∃ k, b.key = k := ⟨_, rfl⟩
          rw [hK0] at HV HD hkl
          obtain ⟨at0, ct0, rfl, _⟩ := HV.out.form
          clear hK0
          go_wp2_with (at_builtin; refine wpList_bx rfl (.tmp 33) (.tmp 34) rfl _ [1] rfl (Bx.lit1 w4 1) _ K0 rfl (HV.out.kept ((Chg.refl w4 nob).alloc _) (fun _ _ => id)) (by simp only [List.length_cons, List.length_nil]; omega) ?_)
          intro v5 w5 hb5 _
          have HF := Lib.hid (hb5.newer HC.out)
          clear hb5
          go_wp2
          go_ret2
          exact ⟨_, rfl, by rw [HD.out]; exact HF.out⟩
        | false =>
          obtain rfl : q2 = true := by simpa using hqq
          clear hqq
          go_wp2_with fail
          go_at_call 15
          refine (HEN.out w3 HX.out.chg).mono ?_
          rintro e w4 ⟨vt, rfl, hbt⟩
          have hck := hbt.2.1
          have HV := Lib.hid hbt.1
          have HC := Lib.hid (HX.out.chg.trans hck (fun _ _ h => h))
          clear hbt hck ua0 ua1 ua2 ua3 ua4 ua5 ua6 ub0 ub1 ub2 ub3 ub4 ub5 ub6
          obtain ⟨K0, hK0⟩ : ∃ k, b.key = k := ⟨_, rfl⟩
          rw [hK0] at HV HD hkl
          obtain ⟨at0, ct0, rfl, _⟩ := HV.out.form
          clear hK0
          go_wp2_with (at_builtin; refine wpList_bx rfl (.tmp 33) (.tmp 34) rfl _ [1] rfl (Bx.lit1 w4 1) _ K0 rfl (HV.out.kept ((Chg.refl w4 nob).alloc _) (fun _ _ => id)) (by simp only [List.length_cons, List.length_nil]; omega) ?_)
          intro v5 w5 hb5 _
          have HF := Lib.hid (hb5.newer HC.out)
          clear hb5
          go_wp2
          go_ret2
          exact ⟨_, rfl, by rw [HD.out]; exact HF.out⟩
      · have hr : a.r = b.r := by omega
        have hc : a.c = b.c := by omega
        have hq : (a.r != b.r) = false := by simpa using hr
        have hq2 : (a.c != b.c) = false := by simpa using hc
        have HL : Hid (a.l.length = b.l.length) := Lib.hid (by
          have h1 := (Sc.may_b HM1.out).2.2.2.2.1
          have h2 := (Sc.may_b HM2.out).2.2.2.2.1
          rw [hr, hc] at h1
          omega)
        have HD : Hid (diffL a b = [0] ++ headD b ++ strL 0 a.l b.l) := Lib.hid (by
          unfold diffL
          rw [if_neg hdiff]
          simp)
        have hsl := strL_len a.l.length 0 a.l b.l (Nat.le_refl _) (by omega)
        obtain ⟨S, hS⟩ : ∃ S, strL 0 a.l b.l = S := ⟨_, rfl⟩
        have HST : Hid (∀ w', Chg w w' nob → Calls Tryz.prog 17 #[scS a (.slice aa a.l.length ca), scS b (.slice ab b.l.length cb)] w' fun e w'' => ∃ v, e = .returned v ∧ Bx w' w'' v S) := Lib.hid (fun w' hc => by
          have h := dstr_any w' a b _ _ (HA.out.kept hc (fun _ _ => id)) (HB.out.kept hc (fun _ _ => id)) HL.out hlb
          rw [hS] at h
          exact h)
        have HHD : Hid (∀ w', Calls Tryz.prog 16 #[scS b (.slice ab b.l.length cb)] w' fun e w'' => ∃ v, e = .returned v ∧ Bx w' w'' v (headD b)) := Lib.hid (fun w' => dhead_any w' b _ hsb)
        rw [hS] at hsl HD
        obtain ⟨H, hH⟩ : ∃ H, headD b = H := ⟨_, rfl⟩
        rw [hH] at HHD HD hhl
        clear hdiff hr hc hS hH
        go_upto_region 6 with (fail)
        refine wp_lanes [1, 4, 5] [0, 2, 3, 6, 7] [⟨[0, 2, 3, 6, 7], [(0, [1, 4, 5]), (2, [4, 5]), (3, [4, 5])], [1, 4, 5, 0, 2, 3, 6, 7, 8, 9]⟩, ⟨[2, 0, 3, 6, 7], [(2, [4, 5]), (0, [1, 4, 5]), (3, [4, 5])], [1, 4, 5, 2, 0, 3, 6, 7, 8, 9]⟩] rfl (by kernel_rfl) (fun _ _ _ _ _ h => h) ?_; simp only [wpAll, List.map_cons, List.map_nil, List.getElem?_toArray, List.getElem?_cons_zero, List.getElem?_cons_succ]; refine ⟨?_, ?_, trivial⟩
        all_goals (
          obtain ⟨w4, hw⟩ : ∃ W, World.drew w3 = W := ⟨_, rfl⟩
          have hck : Chg w3 w4 nob := by rw [← hw]; exact (Chg.refl w3 nob).drew
          rw [hw]
          replace HX := Lib.hid (HX.out.kept hck)
          clear ua0 ua1 ua2 ua3 ua4 ua5 ua6 ub0 ub1 ub2 ub3 ub4 ub5 ub6
          have ua0 := HX.out.a.cell 0
          have ua1 := HX.out.a.cell 1
          have ua2 := HX.out.a.cell 2
          have ua3 := HX.out.a.cell 3
          have ua4 := HX.out.a.cell 4
          have ua5 := HX.out.a.cell 5
          have ua6 := HX.out.a.cell 6
          have ub0 := HX.out.b.cell 0
          have ub1 := HX.out.b.cell 1
          have ub2 := HX.out.b.cell 2
          have ub3 := HX.out.b.cell 3
          have ub4 := HX.out.b.cell 4
          have ub5 := HX.out.b.cell 5
          have ub6 := HX.out.b.cell 6
          simp only [List.getElem?_toArray, List.getElem?_cons_zero, List.getElem?_cons_succ] at ua0 ua1 ua2 ua3 ua4 ua5 ua6 ub0 ub1 ub2 ub3 ub4 ub5 ub6
          clear hw hck
          (repeat (first | (apply can0; (· rfl); (· rfl); (· (intro w'; first | (go_simp; with_reducible rfl) | (go_simp; done))); simp only [Act.put, List.setIfInBounds_toArray, List.set_cons_zero, List.set_cons_succ]) | (apply can1; (· rfl); (· rfl); (· (first | (go_simp; with_reducible rfl) | (go_simp; done))); simp only [Act.put, List.setIfInBounds_toArray, List.set_cons_zero, List.set_cons_succ]) | (apply canN; (· rfl); (· rfl); simp only [Act.put, List.setIfInBounds_toArray, List.set_cons_zero, List.set_cons_succ]) | (apply canN1; (· rfl); (· rfl); simp only [Act.put, List.setIfInBounds_toArray, List.set_cons_zero, List.set_cons_succ]) | (apply can0; (· rfl); (· (go_simp; done)); (· (intro w'; first | (go_simp; with_reducible rfl) | (go_simp; done))); simp only [Act.put, List.setIfInBounds_toArray, List.set_cons_zero, List.set_cons_succ]) | (apply can1; (· rfl); (· (go_simp; done)); (· (first | (go_simp; with_reducible rfl) | (go_simp; done))); simp only [Act.put, List.setIfInBounds_toArray, List.set_cons_zero, List.set_cons_succ]) | (apply canN; (· rfl); (· (go_simp; done)); simp only [Act.put, List.setIfInBounds_toArray, List.set_cons_zero, List.set_cons_succ]) | (apply canN1; (· rfl); (· (go_simp; done)); simp only [Act.put, List.setIfInBounds_toArray, List.set_cons_zero, List.set_cons_succ]))))
        · refine canW rfl [1, 4, 5] rfl (fun K hK => ?_)
          go_simp
          obtain ⟨w5, hw⟩ : ∃ W, w4.alloc (.cells #[.int .u8 0] 5) = W := ⟨_, rfl⟩
          have hck : Chg w4 w5 nob := by rw [← hw]; exact (Chg.refl w4 nob).alloc _
          have HV : Hid (Bx w w5 (.slice (some ⟨w4.heap.size, 0, none⟩) 1 1) [0]) := Lib.hid (by rw [← hw]; exact (Bx.lit1 w4 0).newer HX.out.chg)
          rw [hw]
          replace HX := Lib.hid (HX.out.kept hck)
          clear ua0 ua1 ua2 ua3 ua4 ua5 ua6 ub0 ub1 ub2 ub3 ub4 ub5 ub6
          have ua0 := HX.out.a.cell 0
          have ua1 := HX.out.a.cell 1
          have ua2 := HX.out.a.cell 2
          have ua3 := HX.out.a.cell 3
          have ua4 := HX.out.a.cell 4
          have ua5 := HX.out.a.cell 5
          have ua6 := HX.out.a.cell 6
          have ub0 := HX.out.b.cell 0
          have ub1 := HX.out.b.cell 1
          have ub2 := HX.out.b.cell 2
          have ub3 := HX.out.b.cell 3
          have ub4 := HX.out.b.cell 4
          have ub5 := HX.out.b.cell 5
          have ub6 := HX.out.b.cell 6
          simp only [List.getElem?_toArray, List.getElem?_cons_zero, List.getElem?_cons_succ] at ua0 ua1 ua2 ua3 ua4 ua5 ua6 ub0 ub1 ub2 ub3 ub4 ub5 ub6
          clear hw hck
          (refine hK _ _ (fun u hu => by (simp only [List.mem_cons, List.not_mem_nil, or_false] at hu); (first | (subst hu; exact reRun_mk rfl (by first | (go_simp; with_reducible rfl) | (go_simp; done)) (holds_at rfl)) | ((repeat' (first | (rcases hu with rfl | hu) | (subst hu))) <;> exact reRun_mk rfl (by first | (go_simp; with_reducible rfl) | (go_simp; done)) (holds_at rfl)))) ?_; clear hK K; try simp only [Act.put, List.setIfInBounds_toArray, List.set_cons_zero, List.set_cons_succ])
          (repeat (first | (apply can0; (· rfl); (· rfl); (· (intro w'; first | (go_simp; with_reducible rfl) | (go_simp; done))); simp only [Act.put, List.setIfInBounds_toArray, List.set_cons_zero, List.set_cons_succ]) | (apply can1; (· rfl); (· rfl); (· (first | (go_simp; with_reducible rfl) | (go_simp; done))); simp only [Act.put, List.setIfInBounds_toArray, List.set_cons_zero, List.set_cons_succ]) | (apply canN; (· rfl); (· rfl); simp only [Act.put, List.setIfInBounds_toArray, List.set_cons_zero, List.set_cons_succ]) | (apply canN1; (· rfl); (· rfl); simp only [Act.put, List.setIfInBounds_toArray, List.set_cons_zero, List.set_cons_succ]) | (apply can0; (· rfl); (· (go_simp; done)); (· (intro w'; first | (go_simp; with_reducible rfl) | (go_simp; done))); simp only [Act.put, List.setIfInBounds_toArray, List.set_cons_zero, List.set_cons_succ]) | (apply can1; (· rfl); (· (go_simp; done)); (· (first | (go_simp; with_reducible rfl) | (go_simp; done))); simp only [Act.put, List.setIfInBounds_toArray, List.set_cons_zero, List.set_cons_succ]) | (apply canN; (· rfl); (· (go_simp; done)); simp only [Act.put, List.setIfInBounds_toArray, List.set_cons_zero, List.set_cons_succ]) | (apply canN1; (· rfl); (· (go_simp; done)); simp only [Act.put, List.setIfInBounds_toArray, List.set_cons_zero, List.set_cons_succ])))
          refine canW rfl [4, 5] rfl (fun K hK => ?_)
          go_simp
          go_at_call 16
          refine (HHD.out w5).mono ?_
          rintro e w6 ⟨vh, rfl, hbh⟩
          have hck := hbh.2.1
          have HH := Lib.hid hbh.1
          replace HV := Lib.hid (HV.out.keptC hck)
          replace HX := Lib.hid (HX.out.kept hck)
          clear ua0 ua1 ua2 ua3 ua4 ua5 ua6 ub0 ub1 ub2 ub3 ub4 ub5 ub6
          have ua0 := HX.out.a.cell 0
          have ua1 := HX.out.a.cell 1
          have ua2 := HX.out.a.cell 2
          have ua3 := HX.out.a.cell 3
          have ua4 := HX.out.a.cell 4
          have ua5 := HX.out.a.cell 5
          have ua6 := HX.out.a.cell 6
          have ub0 := HX.out.b.cell 0
          have ub1 := HX.out.b.cell 1
          have ub2 := HX.out.b.cell 2
          have ub3 := HX.out.b.cell 3
          have ub4 := HX.out.b.cell 4
          have ub5 := HX.out.b.cell 5
          have ub6 := HX.out.b.cell 6
          simp only [List.getElem?_toArray, List.getElem?_cons_zero, List.getElem?_cons_succ] at ua0 ua1 ua2 ua3 ua4 ua5 ua6 ub0 ub1 ub2 ub3 ub4 ub5 ub6
          clear hck hbh
          obtain ⟨ah, ch, rfl, _⟩ := HH.out.form
          (refine hK _ _ (fun u hu => by (simp only [List.mem_cons, List.not_mem_nil, or_false] at hu); (first | (subst hu; exact reRun_mk rfl (by first | (go_simp; with_reducible rfl) | (go_simp; done)) (holds_at rfl)) | ((repeat' (first | (rcases hu with rfl | hu) | (subst hu))) <;> exact reRun_mk rfl (by first | (go_simp; with_reducible rfl) | (go_simp; done)) (holds_at rfl)))) ?_; clear hK K; try simp only [Act.put, List.setIfInBounds_toArray, List.set_cons_zero, List.set_cons_succ])
          (repeat (first | (apply can0; (· rfl); (· rfl); (· (intro w'; first | (go_simp; with_reducible rfl) | (go_simp; done))); simp only [Act.put, List.setIfInBounds_toArray, List.set_cons_zero, List.set_cons_succ]) | (apply can1; (· rfl); (· rfl); (· (first | (go_simp; with_reducible rfl) | (go_simp; done))); simp only [Act.put, List.setIfInBounds_toArray, List.set_cons_zero, List.set_cons_succ]) | (apply canN; (· rfl); (· rfl); simp only [Act.put, List.setIfInBounds_toArray, List.set_cons_zero, List.set_cons_succ]) | (apply canN1; (· rfl); (· rfl); simp only [Act.put, List.setIfInBounds_toArray, List.set_cons_zero, List.set_cons_succ]) | (apply can0; (· rfl); (· (go_simp; done)); (· (intro w'; first | (go_simp; with_reducible rfl) | (go_simp; done))); simp only [Act.put, List.setIfInBounds_toArray, List.set_cons_zero, List.set_cons_succ]) | (apply can1; (· rfl); (· (go_simp; done)); (· (first | (go_simp; with_reducible rfl) | (go_simp; done))); simp only [Act.put, List.setIfInBounds_toArray, List.set_cons_zero, List.set_cons_succ]) | (apply canN; (· rfl); (· (go_simp; done)); simp only [Act.put, List.setIfInBounds_toArray, List.set_cons_zero, List.set_cons_succ]) | (apply canN1; (· rfl); (· (go_simp; done)); simp only [Act.put, List.setIfInBounds_toArray, List.set_cons_zero, List.set_cons_succ])))
          refine canW rfl [4, 5] rfl (fun K hK => ?_)
          rw [if_pos (by rfl)]
          refine wp_bx _ _ rfl _ [0] rfl HV.out _ H rfl HH.out (by simp only [List.length_cons, List.length_nil]; omega) ?_
          intro v7 w7 hb7 hc7
          replace HX : Hid (Box2 w w7 ia ib _ _) := Lib.hid ⟨hb7.2.1, HX.out.a.kept hc7 (fun hk => HV.out.1.ne HX.out.a (by decide) hk), HX.out.b.kept hc7 (fun hk => HV.out.1.ne HX.out.b (by decide) hk)⟩
          replace HV := Lib.hid hb7
          clear hb7 hc7 HH
          clear ua0 ua1 ua2 ua3 ua4 ua5 ua6 ub0 ub1 ub2 ub3 ub4 ub5 ub6
          have ua0 := HX.out.a.cell 0
          have ua1 := HX.out.a.cell 1
          have ua2 := HX.out.a.cell 2
          have ua3 := HX.out.a.cell 3
          have ua4 := HX.out.a.cell 4
          have ua5 := HX.out.a.cell 5
          have ua6 := HX.out.a.cell 6
          have ub0 := HX.out.b.cell 0
          have ub1 := HX.out.b.cell 1
          have ub2 := HX.out.b.cell 2
          have ub3 := HX.out.b.cell 3
          have ub4 := HX.out.b.cell 4
          have ub5 := HX.out.b.cell 5
          have ub6 := HX.out.b.cell 6
          simp only [List.getElem?_toArray, List.getElem?_cons_zero, List.getElem?_cons_succ] at ua0 ua1 ua2 ua3 ua4 ua5 ua6 ub0 ub1 ub2 ub3 ub4 ub5 ub6
          obtain ⟨L7, hL7⟩ : ∃ L, [0] ++ H = L := ⟨_, rfl⟩
          have hl7 : L7.length ≤ 100100 := by rw [← hL7]; simp only [List.length_append, List.length_cons, List.length_nil]; omega
          rw [hL7] at HV HD
          clear hL7
          obtain ⟨a7, c7, rfl, _⟩ := HV.out.1.form
          (refine hK _ _ (fun u hu => by (simp only [List.mem_cons, List.not_mem_nil, or_false] at hu); (first | (subst hu; exact reRun_mk rfl (by first | (go_simp; with_reducible rfl) | (go_simp; done)) (holds_at rfl)) | ((repeat' (first | (rcases hu with rfl | hu) | (subst hu))) <;> exact reRun_mk rfl (by first | (go_simp; with_reducible rfl) | (go_simp; done)) (holds_at rfl)))) ?_; clear hK K; try simp only [Act.put, List.setIfInBounds_toArray, List.set_cons_zero, List.set_cons_succ])
          (repeat (first | (apply can0; (· rfl); (· rfl); (· (intro w'; first | (go_simp; with_reducible rfl) | (go_simp; done))); simp only [Act.put, List.setIfInBounds_toArray, List.set_cons_zero, List.set_cons_succ]) | (apply can1; (· rfl); (· rfl); (· (first | (go_simp; with_reducible rfl) | (go_simp; done))); simp only [Act.put, List.setIfInBounds_toArray, List.set_cons_zero, List.set_cons_succ]) | (apply canN; (· rfl); (· rfl); simp only [Act.put, List.setIfInBounds_toArray, List.set_cons_zero, List.set_cons_succ]) | (apply canN1; (· rfl); (· rfl); simp only [Act.put, List.setIfInBounds_toArray, List.set_cons_zero, List.set_cons_succ]) | (apply can0; (· rfl); (· (go_simp; done)); (· (intro w'; first | (go_simp; with_reducible rfl) | (go_simp; done))); simp only [Act.put, List.setIfInBounds_toArray, List.set_cons_zero, List.set_cons_succ]) | (apply can1; (· rfl); (· (go_simp; done)); (· (first | (go_simp; with_reducible rfl) | (go_simp; done))); simp only [Act.put, List.setIfInBounds_toArray, List.set_cons_zero, List.set_cons_succ]) | (apply canN; (· rfl); (· (go_simp; done)); simp only [Act.put, List.setIfInBounds_toArray, List.set_cons_zero, List.set_cons_succ]) | (apply canN1; (· rfl); (· (go_simp; done)); simp only [Act.put, List.setIfInBounds_toArray, List.set_cons_zero, List.set_cons_succ])))
          refine canW rfl [] rfl (fun K hK => ?_)
          go_simp
          go_at_call 17
          refine (HST.out w7 HX.out.chg).mono ?_
          rintro e w8 ⟨vs, rfl, hbs⟩
          have hck := hbs.2.1
          have HSV := Lib.hid hbs.1
          replace HV := Lib.hid (HV.out.keptC hck)
          clear hck hbs ua0 ua1 ua2 ua3 ua4 ua5 ua6 ub0 ub1 ub2 ub3 ub4 ub5 ub6
          obtain ⟨as8, cs8, rfl, _⟩ := HSV.out.form
          (refine hK _ _ (fun u hu => by cases hu) ?_; clear hK K; try simp only [Act.put, List.setIfInBounds_toArray, List.set_cons_zero, List.set_cons_succ])
          (repeat (first | (apply can0; (· rfl); (· rfl); (· (intro w'; first | (go_simp; with_reducible rfl) | (go_simp; done))); simp only [Act.put, List.setIfInBounds_toArray, List.set_cons_zero, List.set_cons_succ]) | (apply can1; (· rfl); (· rfl); (· (first | (go_simp; with_reducible rfl) | (go_simp; done))); simp only [Act.put, List.setIfInBounds_toArray, List.set_cons_zero, List.set_cons_succ]) | (apply canN; (· rfl); (· rfl); simp only [Act.put, List.setIfInBounds_toArray, List.set_cons_zero, List.set_cons_succ]) | (apply canN1; (· rfl); (· rfl); simp only [Act.put, List.setIfInBounds_toArray, List.set_cons_zero, List.set_cons_succ]) | (apply can0; (· rfl); (· (go_simp; done)); (· (intro w'; first | (go_simp; with_reducible rfl) | (go_simp; done))); simp only [Act.put, List.setIfInBounds_toArray, List.set_cons_zero, List.set_cons_succ]) | (apply can1; (· rfl); (· (go_simp; done)); (· (first | (go_simp; with_reducible rfl) | (go_simp; done))); simp only [Act.put, List.setIfInBounds_toArray, List.set_cons_zero, List.set_cons_succ]) | (apply canN; (· rfl); (· (go_simp; done)); simp only [Act.put, List.setIfInBounds_toArray, List.set_cons_zero, List.set_cons_succ]) | (apply canN1; (· rfl); (· (go_simp; done)); simp only [Act.put, List.setIfInBounds_toArray, List.set_cons_zero, List.set_cons_succ])))
          refine canW rfl [] rfl (fun K hK => ?_)
          rw [if_pos (by rfl)]
          refine wp_bx _ _ rfl _ L7 rfl HV.out _ S rfl HSV.out (by omega) ?_
          intro v9 w9 hb9 _
          have HF := Lib.hid hb9
          clear hb9
          (refine hK _ _ (fun u hu => by cases hu) ?_; clear hK K; try simp only [Act.put, List.setIfInBounds_toArray, List.set_cons_zero, List.set_cons_succ])
          (repeat (first | (apply can0; (· rfl); (· rfl); (· (intro w'; first | (go_simp; with_reducible rfl) | (go_simp; done))); simp only [Act.put, List.setIfInBounds_toArray, List.set_cons_zero, List.set_cons_succ]) | (apply can1; (· rfl); (· rfl); (· (first | (go_simp; with_reducible rfl) | (go_simp; done))); simp only [Act.put, List.setIfInBounds_toArray, List.set_cons_zero, List.set_cons_succ]) | (apply canN; (· rfl); (· rfl); simp only [Act.put, List.setIfInBounds_toArray, List.set_cons_zero, List.set_cons_succ]) | (apply canN1; (· rfl); (· rfl); simp only [Act.put, List.setIfInBounds_toArray, List.set_cons_zero, List.set_cons_succ]) | (apply can0; (· rfl); (· (go_simp; done)); (· (intro w'; first | (go_simp; with_reducible rfl) | (go_simp; done))); simp only [Act.put, List.setIfInBounds_toArray, List.set_cons_zero, List.set_cons_succ]) | (apply can1; (· rfl); (· (go_simp; done)); (· (first | (go_simp; with_reducible rfl) | (go_simp; done))); simp only [Act.put, List.setIfInBounds_toArray, List.set_cons_zero, List.set_cons_succ]) | (apply canN; (· rfl); (· (go_simp; done)); simp only [Act.put, List.setIfInBounds_toArray, List.set_cons_zero, List.set_cons_succ]) | (apply canN1; (· rfl); (· (go_simp; done)); simp only [Act.put, List.setIfInBounds_toArray, List.set_cons_zero, List.set_cons_succ])))
          refine canE ?_
          go_wp2
          go_ret2
          exact ⟨_, rfl, by rw [HD.out]; exact HF.out⟩
        · refine canW rfl [4, 5] rfl (fun K hK => ?_)
          go_simp
          go_at_call 16
          refine (HHD.out w4).mono ?_
          rintro e w5 ⟨vh, rfl, hbh⟩
          have hck := hbh.2.1
          have HH0 := Lib.hid hbh.1
          replace HX := Lib.hid (HX.out.kept hck)
          clear ua0 ua1 ua2 ua3 ua4 ua5 ua6 ub0 ub1 ub2 ub3 ub4 ub5 ub6
          have ua0 := HX.out.a.cell 0
          have ua1 := HX.out.a.cell 1
          have ua2 := HX.out.a.cell 2
          have ua3 := HX.out.a.cell 3
          have ua4 := HX.out.a.cell 4
          have ua5 := HX.out.a.cell 5
          have ua6 := HX.out.a.cell 6
          have ub0 := HX.out.b.cell 0
          have ub1 := HX.out.b.cell 1
          have ub2 := HX.out.b.cell 2
          have ub3 := HX.out.b.cell 3
          have ub4 := HX.out.b.cell 4
          have ub5 := HX.out.b.cell 5
          have ub6 := HX.out.b.cell 6
          simp only [List.getElem?_toArray, List.getElem?_cons_zero, List.getElem?_cons_succ] at ua0 ua1 ua2 ua3 ua4 ua5 ua6 ub0 ub1 ub2 ub3 ub4 ub5 ub6
          clear hck hbh
          obtain ⟨ah, ch, rfl, _⟩ := HH0.out.form
          (refine hK _ _ (fun u hu => by (simp only [List.mem_cons, List.not_mem_nil, or_false] at hu); (first | (subst hu; exact reRun_mk rfl (by first | (go_simp; with_reducible rfl) | (go_simp; done)) (holds_at rfl)) | ((repeat' (first | (rcases hu with rfl | hu) | (subst hu))) <;> exact reRun_mk rfl (by first | (go_simp; with_reducible rfl) | (go_simp; done)) (holds_at rfl)))) ?_; clear hK K; try simp only [Act.put, List.setIfInBounds_toArray, List.set_cons_zero, List.set_cons_succ])
          (repeat (first | (apply can0; (· rfl); (· rfl); (· (intro w'; first | (go_simp; with_reducible rfl) | (go_simp; done))); simp only [Act.put, List.setIfInBounds_toArray, List.set_cons_zero, List.set_cons_succ]) | (apply can1; (· rfl); (· rfl); (· (first | (go_simp; with_reducible rfl) | (go_simp; done))); simp only [Act.put, List.setIfInBounds_toArray, List.set_cons_zero, List.set_cons_succ]) | (apply canN; (· rfl); (· rfl); simp only [Act.put, List.setIfInBounds_toArray, List.set_cons_zero, List.set_cons_succ]) | (apply canN1; (· rfl); (· rfl); simp only [Act.put, List.setIfInBounds_toArray, List.set_cons_zero, List.set_cons_succ]) | (apply can0; (· rfl); (· (go_simp; done)); (· (intro w'; first | (go_simp; with_reducible rfl) | (go_simp; done))); simp only [Act.put, List.setIfInBounds_toArray, List.set_cons_zero, List.set_cons_succ]) | (apply can1; (· rfl); (· (go_simp; done)); (· (first | (go_simp; with_reducible rfl) | (go_simp; done))); simp only [Act.put, List.setIfInBounds_toArray, List.set_cons_zero, List.set_cons_succ]) | (apply canN; (· rfl); (· (go_simp; done)); simp only [Act.put, List.setIfInBounds_toArray, List.set_cons_zero, List.set_cons_succ]) | (apply canN1; (· rfl); (· (go_simp; done)); simp only [Act.put, List.setIfInBounds_toArray, List.set_cons_zero, List.set_cons_succ])))
          refine canW rfl [1, 4, 5] rfl (fun K hK => ?_)
          go_simp
          obtain ⟨w6, hw⟩ : ∃ W, w5.alloc (.cells #[.int .u8 0] 5) = W := ⟨_, rfl⟩
          have hck : Chg w5 w6 nob := by rw [← hw]; exact (Chg.refl w5 nob).alloc _
          have HV : Hid (Bx w w6 (.slice (some ⟨w5.heap.size, 0, none⟩) 1 1) [0]) := Lib.hid (by rw [← hw]; exact (Bx.lit1 w5 0).newer HX.out.chg)
          have HH := Lib.hid (HH0.out.kept hck (fun _ _ => id))
          rw [hw]
          replace HX := Lib.hid (HX.out.kept hck)
          clear ua0 ua1 ua2 ua3 ua4 ua5 ua6 ub0 ub1 ub2 ub3 ub4 ub5 ub6
          have ua0 := HX.out.a.cell 0
          have ua1 := HX.out.a.cell 1
          have ua2 := HX.out.a.cell 2
          have ua3 := HX.out.a.cell 3
          have ua4 := HX.out.a.cell 4
          have ua5 := HX.out.a.cell 5
          have ua6 := HX.out.a.cell 6
          have ub0 := HX.out.b.cell 0
          have ub1 := HX.out.b.cell 1
          have ub2 := HX.out.b.cell 2
          have ub3 := HX.out.b.cell 3
          have ub4 := HX.out.b.cell 4
          have ub5 := HX.out.b.cell 5
          have ub6 := HX.out.b.cell 6
          simp only [List.getElem?_toArray, List.getElem?_cons_zero, List.getElem?_cons_succ] at ua0 ua1 ua2 ua3 ua4 ua5 ua6 ub0 ub1 ub2 ub3 ub4 ub5 ub6
          clear hw hck HH0
          (refine hK _ _ (fun u hu => by (simp only [List.mem_cons, List.not_mem_nil, or_false] at hu); (first | (subst hu; exact reRun_mk rfl (by first | (go_simp; with_reducible rfl) | (go_simp; done)) (holds_at rfl)) | ((repeat' (first | (rcases hu with rfl | hu) | (subst hu))) <;> exact reRun_mk rfl (by first | (go_simp; with_reducible rfl) | (go_simp; done)) (holds_at rfl)))) ?_; clear hK K; try simp only [Act.put, List.setIfInBounds_toArray, List.set_cons_zero, List.set_cons_succ])
          (repeat (first | (apply can0; (· rfl); (· rfl); (· (intro w'; first | (go_simp; with_reducible rfl) | (go_simp; done))); simp only [Act.put, List.setIfInBounds_toArray, List.set_cons_zero, List.set_cons_succ]) | (apply can1; (· rfl); (· rfl); (· (first | (go_simp; with_reducible rfl) | (go_simp; done))); simp only [Act.put, List.setIfInBounds_toArray, List.set_cons_zero, List.set_cons_succ]) | (apply canN; (· rfl); (· rfl); simp only [Act.put, List.setIfInBounds_toArray, List.set_cons_zero, List.set_cons_succ]) | (apply canN1; (· rfl); (· rfl); simp only [Act.put, List.setIfInBounds_toArray, List.set_cons_zero, List.set_cons_succ]) | (apply can0; (· rfl); (· (go_simp; done)); (· (intro w'; first | (go_simp; with_reducible rfl) | (go_simp; done))); simp only [Act.put, List.setIfInBounds_toArray, List.set_cons_zero, List.set_cons_succ]) | (apply can1; (· rfl); (· (go_simp; done)); (· (first | (go_simp; with_reducible rfl) | (go_simp; done))); simp only [Act.put, List.setIfInBounds_toArray, List.set_cons_zero, List.set_cons_succ]) | (apply canN; (· rfl); (· (go_simp; done)); simp only [Act.put, List.setIfInBounds_toArray, List.set_cons_zero, List.set_cons_succ]) | (apply canN1; (· rfl); (· (go_simp; done)); simp only [Act.put, List.setIfInBounds_toArray, List.set_cons_zero, List.set_cons_succ])))
          refine canW rfl [4, 5] rfl (fun K hK => ?_)
          rw [if_pos (by rfl)]
          refine wp_bx _ _ rfl _ [0] rfl HV.out _ H rfl HH.out (by simp only [List.length_cons, List.length_nil]; omega) ?_
          intro v7 w7 hb7 hc7
          replace HX : Hid (Box2 w w7 ia ib _ _) := Lib.hid ⟨hb7.2.1, HX.out.a.kept hc7 (fun hk => HV.out.1.ne HX.out.a (by decide) hk), HX.out.b.kept hc7 (fun hk => HV.out.1.ne HX.out.b (by decide) hk)⟩
          replace HV := Lib.hid hb7
          clear hb7 hc7 HH
          clear ua0 ua1 ua2 ua3 ua4 ua5 ua6 ub0 ub1 ub2 ub3 ub4 ub5 ub6
          have ua0 := HX.out.a.cell 0
          have ua1 := HX.out.a.cell 1
          have ua2 := HX.out.a.cell 2
          have ua3 := HX.out.a.cell 3
          have ua4 := HX.out.a.cell 4
          have ua5 := HX.out.a.cell 5
          have ua6 := HX.out.a.cell 6
          have ub0 := HX.out.b.cell 0
          have ub1 := HX.out.b.cell 1
          have ub2 := HX.out.b.cell 2
          have ub3 := HX.out.b.cell 3
          have ub4 := HX.out.b.cell 4
          have ub5 := HX.out.b.cell 5
          have ub6 := HX.out.b.cell 6
          simp only [List.getElem?_toArray, List.getElem?_cons_zero, List.getElem?_cons_succ] at ua0 ua1 ua2 ua3 ua4 ua5 ua6 ub0 ub1 ub2 ub3 ub4 ub5 ub6
          obtain ⟨L7, hL7⟩ : ∃ L, [0] ++ H = L := ⟨_, rfl⟩
          have hl7 : L7.length ≤ 100100 := by rw [← hL7]; simp only [List.length_append, List.length_cons, List.length_nil]; omega
          rw [hL7] at HV HD
          clear hL7
          obtain ⟨a7, c7, rfl, _⟩ := HV.out.1.form
          (refine hK _ _ (fun u hu => by (simp only [List.mem_cons, List.not_mem_nil, or_false] at hu); (first | (subst hu; exact reRun_mk rfl (by first | (go_simp; with_reducible rfl) | (go_simp; done)) (holds_at rfl)) | ((repeat' (first | (rcases hu with rfl | hu) | (subst hu))) <;> exact reRun_mk rfl (by first | (go_simp; with_reducible rfl) | (go_simp; done)) (holds_at rfl)))) ?_; clear hK K; try simp only [Act.put, List.setIfInBounds_toArray, List.set_cons_zero, List.set_cons_succ])
          (repeat (first | (apply can0; (· rfl); (· rfl); (· (intro w'; first | (go_simp; with_reducible rfl) | (go_simp; done))); simp only [Act.put, List.setIfInBounds_toArray, List.set_cons_zero, List.set_cons_succ]) | (apply can1; (· rfl); (· rfl); (· (first | (go_simp; with_reducible rfl) | (go_simp; done))); simp only [Act.put, List.setIfInBounds_toArray, List.set_cons_zero, List.set_cons_succ]) | (apply canN; (· rfl); (· rfl); simp only [Act.put, List.setIfInBounds_toArray, List.set_cons_zero, List.set_cons_succ]) | (apply canN1; (· rfl); (· rfl); simp only [Act.put, List.setIfInBounds_toArray, List.set_cons_zero, List.set_cons_succ]) | (apply can0; (· rfl); (· (go_simp; done)); (· (intro w'; first | (go_simp; with_reducible rfl) | (go_simp; done))); simp only [Act.put, List.setIfInBounds_toArray, List.set_cons_zero, List.set_cons_succ]) | (apply can1; (· rfl); (· (go_simp; done)); (· (first | (go_simp; with_reducible rfl) | (go_simp; done))); simp only [Act.put, List.setIfInBounds_toArray, List.set_cons_zero, List.set_cons_succ]) | (apply canN; (· rfl); (· (go_simp; done)); simp only [Act.put, List.setIfInBounds_toArray, List.set_cons_zero, List.set_cons_succ]) | (apply canN1; (· rfl); (· (go_simp; done)); simp only [Act.put, List.setIfInBounds_toArray, List.set_cons_zero, List.set_cons_succ])))
          refine canW rfl [] rfl (fun K hK => ?_)
          go_simp
          go_at_call 17
          refine (HST.out w7 HX.out.chg).mono ?_
          rintro e w8 ⟨vs, rfl, hbs⟩
          have hck := hbs.2.1
          have HSV := Lib.hid hbs.1
          replace HV := Lib.hid (HV.out.keptC hck)
          clear hck hbs ua0 ua1 ua2 ua3 ua4 ua5 ua6 ub0 ub1 ub2 ub3 ub4 ub5 ub6
          obtain ⟨as8, cs8, rfl, _⟩ := HSV.out.form
          (refine hK _ _ (fun u hu => by cases hu) ?_; clear hK K; try simp only [Act.put, List.setIfInBounds_toArray, List.set_cons_zero, List.set_cons_succ])
          (repeat (first | (apply can0; (· rfl); (· rfl); (· (intro w'; first | (go_simp; with_reducible rfl) | (go_simp; done))); simp only [Act.put, List.setIfInBounds_toArray, List.set_cons_zero, List.set_cons_succ]) | (apply can1; (· rfl); (· rfl); (· (first | (go_simp; with_reducible rfl) | (go_simp; done))); simp only [Act.put, List.setIfInBounds_toArray, List.set_cons_zero, List.set_cons_succ]) | (apply canN; (· rfl); (· rfl); simp only [Act.put, List.setIfInBounds_toArray, List.set_cons_zero, List.set_cons_succ]) | (apply canN1; (· rfl); (· rfl); simp only [Act.put, List.setIfInBounds_toArray, List.set_cons_zero, List.set_cons_succ]) | (apply can0; (· rfl); (· (go_simp; done)); (· (intro w'; first | (go_simp; with_reducible rfl) | (go_simp; done))); simp only [Act.put, List.setIfInBounds_toArray, List.set_cons_zero, List.set_cons_succ]) | (apply can1; (· rfl); (· (go_simp; done)); (· (first | (go_simp; with_reducible rfl) | (go_simp; done))); simp only [Act.put, List.setIfInBounds_toArray, List.set_cons_zero, List.set_cons_succ]) | (apply canN; (· rfl); (· (go_simp; done)); simp only [Act.put, List.setIfInBounds_toArray, List.set_cons_zero, List.set_cons_succ]) | (apply canN1; (· rfl); (· (go_simp; done)); simp only [Act.put, List.setIfInBounds_toArray, List.set_cons_zero, List.set_cons_succ])))
          refine canW rfl [] rfl (fun K hK => ?_)
          rw [if_pos (by rfl)]
          refine wp_bx _ _ rfl _ L7 rfl HV.out _ S rfl HSV.out (by omega) ?_
          intro v9 w9 hb9 _
          have HF := Lib.hid hb9
          clear hb9
          (refine hK _ _ (fun u hu => by cases hu) ?_; clear hK K; try simp only [Act.put, List.setIfInBounds_toArray, List.set_cons_zero, List.set_cons_succ])
          (repeat (first | (apply can0; (· rfl); (· rfl); (· (intro w'; first | (go_simp; with_reducible rfl) | (go_simp; done))); simp only [Act.put, List.setIfInBounds_toArray, List.set_cons_zero, List.set_cons_succ]) | (apply can1; (· rfl); (· rfl); (· (first | (go_simp; with_reducible rfl) | (go_simp; done))); simp only [Act.put, List.setIfInBounds_toArray, List.set_cons_zero, List.set_cons_succ]) | (apply canN; (· rfl); (· rfl); simp only [Act.put, List.setIfInBounds_toArray, List.set_cons_zero, List.set_cons_succ]) | (apply canN1; (· rfl); (· rfl); simp only [Act.put, List.setIfInBounds_toArray, List.set_cons_zero, List.set_cons_succ]) | (apply can0; (· rfl); (· (go_simp; done)); (· (intro w'; first | (go_simp; with_reducible rfl) | (go_simp; done))); simp only [Act.put, List.setIfInBounds_toArray, List.set_cons_zero, List.set_cons_succ]) | (apply can1; (· rfl); (· (go_simp; done)); (· (first | (go_simp; with_reducible rfl) | (go_simp; done))); simp only [Act.put, List.setIfInBounds_toArray, List.set_cons_zero, List.set_cons_succ]) | (apply canN; (· rfl); (· (go_simp; done)); simp only [Act.put, List.setIfInBounds_toArray, List.set_cons_zero, List.set_cons_succ]) | (apply canN1; (· rfl); (· (go_simp; done)); simp only [Act.put, List.setIfInBounds_toArray, List.set_cons_zero, List.set_cons_succ])))
          refine canE ?_
          go_wp2
          go_ret2
          exact ⟨_, rfl, by rw [HD.out]; exact HF.out⟩
end Go.Proofs.YtmbdpcamhkdkmaaGreatDoor
