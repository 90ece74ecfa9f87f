/-
  The document's MakeDiff (tikref13).
-/
import Derived.Test.YtmbdpcamhkdkmaaGreatDoorDiff3M
import Derived.Test.YtmbdpcamhkdkmaaGreatDoorEncM
import Derived.Test.YtmbdpcamhkdkmaaGreatDoorMg15
namespace Go.Proofs.YtmbdpcamhkdkmaaGreatDoor
open Go.RowKit
set_option linter.unusedVariables false
set_option linter.unusedSimpArgs false

def hd4 (b : Sc) : List Nat := [u64N b.y, u64N b.x, bitN b.h, u64N b.t.size]
theorem hd4_lt (b : Sc) : ∀ n ∈ hd4 b, n < 18446744073709551616 := by
  intro n hn
  simp only [hd4, List.mem_cons, List.not_mem_nil, or_false] at hn
  rcases hn with rfl | rfl | rfl | rfl
  · exact u64N_lt _
  · exact u64N_lt _
  · have := bitN_b b.h; omega
  · exact u64N_lt _
theorem headD_hd4 (b : Sc) : headD b = varsL (hd4 b) ++ numsS b.t := by simp [headD, hd4, varsL]
theorem hd4_V (b : Sc) : numsV (hd4 b) = [.int .u64 (IntKind.u64.wrap b.y), .int .u64 (IntKind.u64.wrap b.x), .int .u64 (bitN b.h), .int .u64 (IntKind.u64.wrap b.t.size)] := by
  simp only [numsV, hd4, List.map_cons, List.map_nil, u64N_int]
def hd2 (g n : Nat) : List Nat := [g, n]
theorem hd2_vars (g n : Nat) : varsL (hd2 g n) = varL g ++ varL n := by simp [hd2, varsL]
theorem hd2_V (g n : Nat) : numsV (hd2 g n) = [.int .u64 g, .int .u64 n] := rfl
attribute [local go_sem ↓] ce_guard run_eql_ce run_neq_ce run_cut5_lh
set_option maxRecDepth 100000 in
set_option maxHeartbeats 8000000 in
theorem rmake_any (w : World) (a b : Sc) (va vb : Value) (ha : Rd w 5 va a.l.length (cellsV a.l)) (hb : Rd w 5 vb b.l.length (cellsV b.l)) (hla : a.l.length ≤ 100000) (hlb : b.l.length ≤ 100000) (hsa : a.t.size ≤ 100000) (hsb : b.t.size ≤ 100000) (ht : Tab w) :
    Calls Tryz.prog 7 #[scS a va, scS b vb] w fun e w' => ∃ v, e = .returned (.tuple #[v, .int .i64 (okE (a.may && b.may))]) ∧ Bx w w' v (if (a.may && b.may) = true then diffL a b else []) := by
  obtain ⟨aa, ca, rfl, hca, _⟩ := ha.form
  obtain ⟨ab, cb, rfl, hcb, _⟩ := hb.form
  have HA := Lib.hid ha
  have HB := Lib.hid hb
  have HT := Lib.hid ht
  obtain ⟨m1, hm1⟩ : ∃ m, a.may = m := ⟨_, rfl⟩
  obtain ⟨m2, hm2⟩ : ∃ m, b.may = m := ⟨_, rfl⟩
  have HM1 := Lib.hid hm1
  have HM2 := Lib.hid hm2
  have hkl := keyD_len b
  have hvl := varsL_len _ (hd4_lt b)
  rw [show (hd4 b).length = 4 from rfl] at hvl
  rw [hm1, hm2]
  clear ha hb ht hm1 hm2
  go_enter Tryz.func7, Tryz.ntmps7
  go_upto_region 1 with (fail)
  obtain ⟨w1, hw⟩ : ∃ W, (w.alloc (.cells (scA a.r a.c (.slice aa a.l.length ca) a.y a.x a.h a.t) 24)).alloc (.cells (scA b.r b.c (.slice ab b.l.length cb) b.y b.x b.h b.t) 24) = W := ⟨_, rfl⟩
  have HX : Hid (Box2 w w1 w.heap.size (w.heap.size + 1) (scA a.r a.c (.slice aa a.l.length ca) a.y a.x a.h a.t) (scA b.r b.c (.slice ab b.l.length cb) b.y b.x b.h b.t)) := Lib.hid (by rw [← hw]; exact ⟨((Chg.refl w nob).alloc _).alloc _, (Blk.new w _ _).alloc _, Blk.new2' w _ _ _⟩)
  rw [hw]
  clear hw
  obtain ⟨ia, hia⟩ : ∃ i, w.heap.size = i := ⟨_, rfl⟩
  rw [hia] at HX ⊢
  clear hia
  obtain ⟨ib, hib⟩ : ∃ i, ia + 1 = i := ⟨_, rfl⟩
  rw [hib] at HX ⊢
  clear hib
  have ua0 := HX.out.a.cell 0
  have ua1 := HX.out.a.cell 1
  have ua2 := HX.out.a.cell 2
  have ua3 := HX.out.a.cell 3
  have ua4 := HX.out.a.cell 4
  have ua5 := HX.out.a.cell 5
  have ua6 := HX.out.a.cell 6
  have ub0 := HX.out.b.cell 0
  have ub1 := HX.out.b.cell 1
  have ub2 := HX.out.b.cell 2
  have ub3 := HX.out.b.cell 3
  have ub4 := HX.out.b.cell 4
  have ub5 := HX.out.b.cell 5
  have ub6 := HX.out.b.cell 6
  simp only [List.getElem?_toArray, List.getElem?_cons_zero, List.getElem?_cons_succ] at ua0 ua1 ua2 ua3 ua4 ua5 ua6 ub0 ub1 ub2 ub3 ub4 ub5 ub6
  have HMA := Lib.hid (rmayscr_any w1 a.r a.c a.y a.x a.h a.t (.slice aa a.l.length ca) a.l (HA.out.kept HX.out.chg (fun _ _ => id)) (by omega) (by omega))
  rw [show mayS a.r a.c a.l a.y a.x a.t = m1 from HM1.out] at HMA
  go_wp2_with fail
  go_at_call 18
  refine HMA.out.mono ?_
  rintro e w2 ⟨rfl, hck⟩
  replace HX := Lib.hid (HX.out.kept hck)
  clear ua0 ua1 ua2 ua3 ua4 ua5 ua6 ub0 ub1 ub2 ub3 ub4 ub5 ub6
  have ua0 := HX.out.a.cell 0
  have ua1 := HX.out.a.cell 1
  have ua2 := HX.out.a.cell 2
  have ua3 := HX.out.a.cell 3
  have ua4 := HX.out.a.cell 4
  have ua5 := HX.out.a.cell 5
  have ua6 := HX.out.a.cell 6
  have ub0 := HX.out.b.cell 0
  have ub1 := HX.out.b.cell 1
  have ub2 := HX.out.b.cell 2
  have ub3 := HX.out.b.cell 3
  have ub4 := HX.out.b.cell 4
  have ub5 := HX.out.b.cell 5
  have ub6 := HX.out.b.cell 6
  simp only [List.getElem?_toArray, List.getElem?_cons_zero, List.getElem?_cons_succ] at ua0 ua1 ua2 ua3 ua4 ua5 ua6 ub0 ub1 ub2 ub3 ub4 ub5 ub6
  clear hck HMA
  cases m1 with
  | false =>
    go_wp2
    go_ret2
    exact ⟨_, rfl, World.ownsRow_nil _ _ _ _, HX.out.chg, fun k hk => by cases hk⟩
  | true =>
    have HMB := Lib.hid (rmayscr_any w2 b.r b.c b.y b.x b.h b.t (.slice ab b.l.length cb) b.l (HB.out.kept HX.out.chg (fun _ _ => id)) (by omega) (by omega))
    rw [show mayS b.r b.c b.l b.y b.x b.t = m2 from HM2.out] at HMB
    go_wp2_with fail
    go_at_call 18
    refine HMB.out.mono ?_
    rintro e w3 ⟨rfl, hck⟩
    replace HX := Lib.hid (HX.out.kept hck)
    clear ua0 ua1 ua2 ua3 ua4 ua5 ua6 ub0 ub1 ub2 ub3 ub4 ub5 ub6
    have ua0 := HX.out.a.cell 0
    have ua1 := HX.out.a.cell 1
    have ua2 := HX.out.a.cell 2
    have ua3 := HX.out.a.cell 3
    have ua4 := HX.out.a.cell 4
    have ua5 := HX.out.a.cell 5
    have ua6 := HX.out.a.cell 6
    have ub0 := HX.out.b.cell 0
    have ub1 := HX.out.b.cell 1
    have ub2 := HX.out.b.cell 2
    have ub3 := HX.out.b.cell 3
    have ub4 := HX.out.b.cell 4
    have ub5 := HX.out.b.cell 5
    have ub6 := HX.out.b.cell 6
    simp only [List.getElem?_toArray, List.getElem?_cons_zero, List.getElem?_cons_succ] at ua0 ua1 ua2 ua3 ua4 ua5 ua6 ub0 ub1 ub2 ub3 ub4 ub5 ub6
    clear hck HMB
    cases m2 with
    | false =>
      go_wp2
      go_ret2
      exact ⟨_, rfl, World.ownsRow_nil _ _ _ _, HX.out.chg, fun k hk => by cases hk⟩
    | true =>
      have HEN : Hid (∀ w', Chg w w' nob → Calls Tryz.prog 19 #[scS b (.slice ab b.l.length cb)] w' fun e w'' => ∃ v, e = .returned (.tuple #[v, .int .i64 0]) ∧ Bx w' w'' v b.key) := Lib.hid (fun w' hc => by
        have h := renc_any w' b.r b.c b.y b.x b.h b.t _ b.l (HB.out.kept hc (fun _ _ => id)) (by omega) (by omega) (HT.out.kept hc)
        rw [show mayS b.r b.c b.l b.y b.x b.t = true from HM2.out] at h
        exact h)
      by_cases hdiff : a.r ≠ b.r ∨ a.c ≠ b.c
      · have HD : Hid (diffL a b = [1] ++ b.key) := Lib.hid (if_pos hdiff)
        obtain ⟨q, hq⟩ : ∃ q, (a.r != b.r) = q := ⟨_, rfl⟩
        obtain ⟨q2, hq2⟩ : ∃ q, (a.c != b.c) = q := ⟨_, rfl⟩
        have hqq : (q || q2) = true := by
          rw [← hq, ← hq2]
          simpa using hdiff
        clear hdiff
        cases q with
        | true =>
          clear hqq hq2
          go_wp2_with fail
          go_at_call 19
          refine (HEN.out w3 HX.out.chg).mono ?_
          rintro e w4 ⟨vt, rfl, hbt⟩
          have hck := hbt.2.1
          have HV := Lib.hid hbt.1
          have HC := Lib.hid (HX.out.chg.trans hck (fun _ _ h => h))
          clear hbt hck
          clear ua0 ua1 ua2 ua3 ua4 ua5 ua6 ub0 ub1 ub2 ub3 ub4 ub5 ub6
          obtain ⟨K0, hK0⟩ : ∃ k, b.key = k := ⟨_, rfl⟩
          rw [hK0] at HV HD hkl
          obtain ⟨at0, ct0, rfl, _⟩ := HV.out.form
          clear hK0
          go_wp2_with (at_builtin; refine wpList_bx rfl (.tmp 37) (.tmp 38) rfl _ [1] rfl (Bx.lit1 w4 1) _ K0 rfl (HV.out.kept ((Chg.refl w4 nob).alloc _) (fun _ _ => id)) (by simp only [List.length_cons, List.length_nil]; omega) ?_)
          intro v5 w5 hb5 _
          have HF := Lib.hid (hb5.newer HC.out)
          clear hb5
          go_wp2
          go_ret2
          exact ⟨_, rfl, by rw [HD.out]; exact HF.out⟩
        | false =>
          obtain rfl : q2 = true := by simpa using hqq
          clear hqq
          go_wp2_with fail
          go_at_call 19
          refine (HEN.out w3 HX.out.chg).mono ?_
          rintro e w4 ⟨vt, rfl, hbt⟩
          have hck := hbt.2.1
          have HV := Lib.hid hbt.1
          have HC := Lib.hid (HX.out.chg.trans hck (fun _ _ h => h))
          clear hbt hck
          clear ua0 ua1 ua2 ua3 ua4 ua5 ua6 ub0 ub1 ub2 ub3 ub4 ub5 ub6
          obtain ⟨K0, hK0⟩ : ∃ k, b.key = k := ⟨_, rfl⟩
          rw [hK0] at HV HD hkl
          obtain ⟨at0, ct0, rfl, _⟩ := HV.out.form
          clear hK0
          go_wp2_with (at_builtin; refine wpList_bx rfl (.tmp 37) (.tmp 38) rfl _ [1] rfl (Bx.lit1 w4 1) _ K0 rfl (HV.out.kept ((Chg.refl w4 nob).alloc _) (fun _ _ => id)) (by simp only [List.length_cons, List.length_nil]; omega) ?_)
          intro v5 w5 hb5 _
          have HF := Lib.hid (hb5.newer HC.out)
          clear hb5
          go_wp2
          go_ret2
          exact ⟨_, rfl, by rw [HD.out]; exact HF.out⟩
      · have hr : a.r = b.r := by omega
        have hc : a.c = b.c := by omega
        have hq : (a.r != b.r) = false := by simpa using hr
        have hq2 : (a.c != b.c) = false := by simpa using hc
        have HL : Hid (a.l.length = b.l.length) := Lib.hid (by
          have h1 := (Sc.may_b HM1.out).2.2.2.2.1
          have h2 := (Sc.may_b HM2.out).2.2.2.2.1
          rw [hr, hc] at h1
          omega)
        have HD : Hid (diffL a b = ([0] ++ varsL (hd4 b)) ++ numsS b.t ++ strL 0 a.l b.l) := Lib.hid (by
          unfold diffL
          rw [if_neg hdiff, headD_hd4]
          simp)
        clear hdiff hr hc HEN
        go_upto_region 6 with (fail)
        go_cut [8] (fun dv wx => Hid (Bx w wx dv ([0] ++ varsL (hd4 b))) ∧ Hid (Box2 w wx ia ib (scA a.r a.c (.slice aa a.l.length ca) a.y a.x a.h a.t) (scA b.r b.c (.slice ab b.l.length cb) b.y b.x b.h b.t)))
        case first =>
          refine wp_lanes [2, 5, 8, 11] [0, 9, 14, 15, 16] [⟨[0, 9, 14, 15, 16], [(0, [2, 5, 8, 11]), (9, [2, 5, 11])], [1, 2, 3, 4, 5, 6, 7, 8, 10, 11, 12, 13, 0, 9, 14, 15, 16, 17]⟩, ⟨[9, 0, 14, 15, 16], [(9, [2, 5, 11]), (0, [2, 5, 8, 11])], [1, 2, 3, 4, 5, 6, 7, 8, 10, 11, 12, 13, 9, 0, 14, 15, 16, 17]⟩, ⟨[9, 14, 0, 15, 16], [(9, [2, 5, 11]), (0, [2, 5, 8, 11])], [1, 2, 3, 4, 5, 6, 7, 8, 10, 11, 12, 13, 9, 14, 0, 15, 16, 17]⟩, ⟨[9, 14, 15, 0, 16], [(9, [2, 5, 11]), (0, [2, 5, 8, 11])], [1, 2, 3, 4, 5, 6, 7, 8, 10, 11, 12, 13, 9, 14, 15, 0, 16, 17]⟩] rfl (by kernel_rfl) (fun _ _ _ _ _ h => h) ?_; simp only [wpAll, List.map_cons, List.map_nil, List.getElem?_toArray, List.getElem?_cons_zero, List.getElem?_cons_succ]; refine ⟨?_, ?_, ?_, ?_, trivial⟩
          all_goals (
            obtain ⟨w4, hw⟩ : ∃ W, World.drew w3 = W := ⟨_, rfl⟩
            have hck : Chg w3 w4 nob := by rw [← hw]; exact (Chg.refl w3 nob).drew
            rw [hw]
            replace HX := Lib.hid (HX.out.kept hck)
            clear ua0 ua1 ua2 ua3 ua4 ua5 ua6 ub0 ub1 ub2 ub3 ub4 ub5 ub6
            have ua0 := HX.out.a.cell 0
            have ua1 := HX.out.a.cell 1
            have ua2 := HX.out.a.cell 2
            have ua3 := HX.out.a.cell 3
            have ua4 := HX.out.a.cell 4
            have ua5 := HX.out.a.cell 5
            have ua6 := HX.out.a.cell 6
            have ub0 := HX.out.b.cell 0
            have ub1 := HX.out.b.cell 1
            have ub2 := HX.out.b.cell 2
            have ub3 := HX.out.b.cell 3
            have ub4 := HX.out.b.cell 4
            have ub5 := HX.out.b.cell 5
            have ub6 := HX.out.b.cell 6
            simp only [List.getElem?_toArray, List.getElem?_cons_zero, List.getElem?_cons_succ] at ua0 ua1 ua2 ua3 ua4 ua5 ua6 ub0 ub1 ub2 ub3 ub4 ub5 ub6
            clear hw hck
            (repeat (first | (apply can0; (· rfl); (· rfl); (· (intro w'; first | (go_simp; with_reducible rfl) | (go_simp; done))); simp only [Act.put, List.setIfInBounds_toArray, List.set_cons_zero, List.set_cons_succ]) | (apply can1; (· rfl); (· rfl); (· (first | (go_simp; with_reducible rfl) | (go_simp; done))); simp only [Act.put, List.setIfInBounds_toArray, List.set_cons_zero, List.set_cons_succ]) | (apply canN; (· rfl); (· rfl); simp only [Act.put, List.setIfInBounds_toArray, List.set_cons_zero, List.set_cons_succ]) | (apply canN1; (· rfl); (· rfl); simp only [Act.put, List.setIfInBounds_toArray, List.set_cons_zero, List.set_cons_succ]) | (apply can0; (· rfl); (· (go_simp; done)); (· (intro w'; first | (go_simp; with_reducible rfl) | (go_simp; done))); simp only [Act.put, List.setIfInBounds_toArray, List.set_cons_zero, List.set_cons_succ]) | (apply can1; (· rfl); (· (go_simp; done)); (· (first | (go_simp; with_reducible rfl) | (go_simp; done))); simp only [Act.put, List.setIfInBounds_toArray, List.set_cons_zero, List.set_cons_succ]) | (apply canN; (· rfl); (· (go_simp; done)); simp only [Act.put, List.setIfInBounds_toArray, List.set_cons_zero, List.set_cons_succ]) | (apply canN1; (· rfl); (· (go_simp; done)); simp only [Act.put, List.setIfInBounds_toArray, List.set_cons_zero, List.set_cons_succ]))))
          · skip
            refine canW rfl [2, 5, 8, 11] rfl (fun K hK => ?_)
            go_simp
            obtain ⟨w5, hw⟩ : ∃ W, World.alloc w4 (.cells #[.int .u8 0] 5) = W := ⟨_, rfl⟩
            have hck : Chg w4 w5 nob := by rw [← hw]; exact (Chg.refl w4 nob).alloc _
            have HV0 : Hid (Bx w w5 (.slice (some ⟨World.heap w4 |>.size, 0, none⟩) 1 1) [0]) := Lib.hid (by rw [← hw]; exact (Bx.lit1 w4 0).newer HX.out.chg)
            rw [hw]
            clear hw
            (try replace HV := Lib.hid (HV.out.keptC hck))
            (try replace HNU := Lib.hid (HNU.out.kept hck (fun _ _ => id)))
            (try replace HNV := Lib.hid (HNV.out.kept hck (fun _ _ => id)))
            replace HX := Lib.hid (HX.out.kept hck)
            clear ua0 ua1 ua2 ua3 ua4 ua5 ua6 ub0 ub1 ub2 ub3 ub4 ub5 ub6
            have ua0 := HX.out.a.cell 0
            have ua1 := HX.out.a.cell 1
            have ua2 := HX.out.a.cell 2
            have ua3 := HX.out.a.cell 3
            have ua4 := HX.out.a.cell 4
            have ua5 := HX.out.a.cell 5
            have ua6 := HX.out.a.cell 6
            have ub0 := HX.out.b.cell 0
            have ub1 := HX.out.b.cell 1
            have ub2 := HX.out.b.cell 2
            have ub3 := HX.out.b.cell 3
            have ub4 := HX.out.b.cell 4
            have ub5 := HX.out.b.cell 5
            have ub6 := HX.out.b.cell 6
            simp only [List.getElem?_toArray, List.getElem?_cons_zero, List.getElem?_cons_succ] at ua0 ua1 ua2 ua3 ua4 ua5 ua6 ub0 ub1 ub2 ub3 ub4 ub5 ub6
            have HV := HV0
            clear HV0 hck
            (refine hK _ _ (fun u hu => by (simp only [List.mem_cons, List.not_mem_nil, or_false] at hu); (first | (subst hu; exact reRun_mk rfl (by first | (go_simp; with_reducible rfl) | (go_simp; done)) (holds_at rfl)) | ((repeat' (first | (rcases hu with rfl | hu) | (subst hu))) <;> exact reRun_mk rfl (by first | (go_simp; with_reducible rfl) | (go_simp; done)) (holds_at rfl)))) ?_; clear hK K; try simp only [Act.put, List.setIfInBounds_toArray, List.set_cons_zero, List.set_cons_succ])
            (repeat (first | (apply can0; (· rfl); (· rfl); (· (intro w'; first | (go_simp; with_reducible rfl) | (go_simp; done))); simp only [Act.put, List.setIfInBounds_toArray, List.set_cons_zero, List.set_cons_succ]) | (apply can1; (· rfl); (· rfl); (· (first | (go_simp; with_reducible rfl) | (go_simp; done))); simp only [Act.put, List.setIfInBounds_toArray, List.set_cons_zero, List.set_cons_succ]) | (apply canN; (· rfl); (· rfl); simp only [Act.put, List.setIfInBounds_toArray, List.set_cons_zero, List.set_cons_succ]) | (apply canN1; (· rfl); (· rfl); simp only [Act.put, List.setIfInBounds_toArray, List.set_cons_zero, List.set_cons_succ]) | (apply can0; (· rfl); (· (go_simp; done)); (· (intro w'; first | (go_simp; with_reducible rfl) | (go_simp; done))); simp only [Act.put, List.setIfInBounds_toArray, List.set_cons_zero, List.set_cons_succ]) | (apply can1; (· rfl); (· (go_simp; done)); (· (first | (go_simp; with_reducible rfl) | (go_simp; done))); simp only [Act.put, List.setIfInBounds_toArray, List.set_cons_zero, List.set_cons_succ]) | (apply canN; (· rfl); (· (go_simp; done)); simp only [Act.put, List.setIfInBounds_toArray, List.set_cons_zero, List.set_cons_succ]) | (apply canN1; (· rfl); (· (go_simp; done)); simp only [Act.put, List.setIfInBounds_toArray, List.set_cons_zero, List.set_cons_succ])))
            refine canW rfl [2, 5, 11] rfl (fun K hK => ?_)
            go_simp
            go_at_call 21
            refine (yes_any _ b.h).mono ?_
            rintro e xx ⟨rfl, hxx⟩
            obtain rfl : w5 = xx := hxx.symm
            (refine hK _ _ (fun u hu => by (simp only [List.mem_cons, List.not_mem_nil, or_false] at hu); (first | (subst hu; exact reRun_mk rfl (by first | (go_simp; with_reducible rfl) | (go_simp; done)) (holds_at rfl)) | ((repeat' (first | (rcases hu with rfl | hu) | (subst hu))) <;> exact reRun_mk rfl (by first | (go_simp; with_reducible rfl) | (go_simp; done)) (holds_at rfl)))) ?_; clear hK K; try simp only [Act.put, List.setIfInBounds_toArray, List.set_cons_zero, List.set_cons_succ])
            (repeat (first | (apply can0; (· rfl); (· rfl); (· (intro w'; first | (go_simp; with_reducible rfl) | (go_simp; done))); simp only [Act.put, List.setIfInBounds_toArray, List.set_cons_zero, List.set_cons_succ]) | (apply can1; (· rfl); (· rfl); (· (first | (go_simp; with_reducible rfl) | (go_simp; done))); simp only [Act.put, List.setIfInBounds_toArray, List.set_cons_zero, List.set_cons_succ]) | (apply canN; (· rfl); (· rfl); simp only [Act.put, List.setIfInBounds_toArray, List.set_cons_zero, List.set_cons_succ]) | (apply canN1; (· rfl); (· rfl); simp only [Act.put, List.setIfInBounds_toArray, List.set_cons_zero, List.set_cons_succ]) | (apply can0; (· rfl); (· (go_simp; done)); (· (intro w'; first | (go_simp; with_reducible rfl) | (go_simp; done))); simp only [Act.put, List.setIfInBounds_toArray, List.set_cons_zero, List.set_cons_succ]) | (apply can1; (· rfl); (· (go_simp; done)); (· (first | (go_simp; with_reducible rfl) | (go_simp; done))); simp only [Act.put, List.setIfInBounds_toArray, List.set_cons_zero, List.set_cons_succ]) | (apply canN; (· rfl); (· (go_simp; done)); simp only [Act.put, List.setIfInBounds_toArray, List.set_cons_zero, List.set_cons_succ]) | (apply canN1; (· rfl); (· (go_simp; done)); simp only [Act.put, List.setIfInBounds_toArray, List.set_cons_zero, List.set_cons_succ])))
            refine canW rfl [] rfl (fun K hK => ?_)
            go_simp
            obtain ⟨w6, hw⟩ : ∃ W, World.alloc w5 (.cells #[.int .u64 (IntKind.u64.wrap b.y), .int .u64 (IntKind.u64.wrap b.x), .int .u64 (bitN b.h), .int .u64 (IntKind.u64.wrap b.t.size)] 41) = W := ⟨_, rfl⟩
            have hck : Chg w5 w6 nob := by rw [← hw]; exact (Chg.refl w5 nob).alloc _
            have HNU0 : Hid (Rd w6 1 (.slice (some ⟨World.heap w5 |>.size, 0, none⟩) 4 4) 4 (numsV (hd4 b))) := Lib.hid (by rw [← hw, hd4_V]; exact Rd.made w5 41 _ (size := 1) (n := 4) (c := 4) rfl (Nat.le_refl _))
            rw [hw]
            clear hw
            (try replace HV := Lib.hid (HV.out.keptC hck))
            (try replace HNU := Lib.hid (HNU.out.kept hck (fun _ _ => id)))
            (try replace HNV := Lib.hid (HNV.out.kept hck (fun _ _ => id)))
            replace HX := Lib.hid (HX.out.kept hck)
            clear ua0 ua1 ua2 ua3 ua4 ua5 ua6 ub0 ub1 ub2 ub3 ub4 ub5 ub6
            have ua0 := HX.out.a.cell 0
            have ua1 := HX.out.a.cell 1
            have ua2 := HX.out.a.cell 2
            have ua3 := HX.out.a.cell 3
            have ua4 := HX.out.a.cell 4
            have ua5 := HX.out.a.cell 5
            have ua6 := HX.out.a.cell 6
            have ub0 := HX.out.b.cell 0
            have ub1 := HX.out.b.cell 1
            have ub2 := HX.out.b.cell 2
            have ub3 := HX.out.b.cell 3
            have ub4 := HX.out.b.cell 4
            have ub5 := HX.out.b.cell 5
            have ub6 := HX.out.b.cell 6
            simp only [List.getElem?_toArray, List.getElem?_cons_zero, List.getElem?_cons_succ] at ua0 ua1 ua2 ua3 ua4 ua5 ua6 ub0 ub1 ub2 ub3 ub4 ub5 ub6
            have HNU := HNU0
            clear HNU0 hck
            (refine hK _ _ (fun u hu => by cases hu) ?_; clear hK K; try simp only [Act.put, List.setIfInBounds_toArray, List.set_cons_zero, List.set_cons_succ])
            (repeat (first | (apply can0; (· rfl); (· rfl); (· (intro w'; first | (go_simp; with_reducible rfl) | (go_simp; done))); simp only [Act.put, List.setIfInBounds_toArray, List.set_cons_zero, List.set_cons_succ]) | (apply can1; (· rfl); (· rfl); (· (first | (go_simp; with_reducible rfl) | (go_simp; done))); simp only [Act.put, List.setIfInBounds_toArray, List.set_cons_zero, List.set_cons_succ]) | (apply canN; (· rfl); (· rfl); simp only [Act.put, List.setIfInBounds_toArray, List.set_cons_zero, List.set_cons_succ]) | (apply canN1; (· rfl); (· rfl); simp only [Act.put, List.setIfInBounds_toArray, List.set_cons_zero, List.set_cons_succ]) | (apply can0; (· rfl); (· (go_simp; done)); (· (intro w'; first | (go_simp; with_reducible rfl) | (go_simp; done))); simp only [Act.put, List.setIfInBounds_toArray, List.set_cons_zero, List.set_cons_succ]) | (apply can1; (· rfl); (· (go_simp; done)); (· (first | (go_simp; with_reducible rfl) | (go_simp; done))); simp only [Act.put, List.setIfInBounds_toArray, List.set_cons_zero, List.set_cons_succ]) | (apply canN; (· rfl); (· (go_simp; done)); simp only [Act.put, List.setIfInBounds_toArray, List.set_cons_zero, List.set_cons_succ]) | (apply canN1; (· rfl); (· (go_simp; done)); simp only [Act.put, List.setIfInBounds_toArray, List.set_cons_zero, List.set_cons_succ])))
            refine canW rfl [] rfl (fun K hK => ?_)
            go_simp
            go_at_call 20
            refine (nums_any w6 _ (hd4 b) HNU.out (hd4_lt b) (by (show 4 ≤ 1000); decide)).mono ?_
            rintro e w7 ⟨vn, rfl, hbn⟩
            have hck := hbn.2.1
            have HNV0 := Lib.hid hbn.1
            clear HNU hbn
            (try replace HV := Lib.hid (HV.out.keptC hck))
            (try replace HNU := Lib.hid (HNU.out.kept hck (fun _ _ => id)))
            (try replace HNV := Lib.hid (HNV.out.kept hck (fun _ _ => id)))
            replace HX := Lib.hid (HX.out.kept hck)
            clear ua0 ua1 ua2 ua3 ua4 ua5 ua6 ub0 ub1 ub2 ub3 ub4 ub5 ub6
            have ua0 := HX.out.a.cell 0
            have ua1 := HX.out.a.cell 1
            have ua2 := HX.out.a.cell 2
            have ua3 := HX.out.a.cell 3
            have ua4 := HX.out.a.cell 4
            have ua5 := HX.out.a.cell 5
            have ua6 := HX.out.a.cell 6
            have ub0 := HX.out.b.cell 0
            have ub1 := HX.out.b.cell 1
            have ub2 := HX.out.b.cell 2
            have ub3 := HX.out.b.cell 3
            have ub4 := HX.out.b.cell 4
            have ub5 := HX.out.b.cell 5
            have ub6 := HX.out.b.cell 6
            simp only [List.getElem?_toArray, List.getElem?_cons_zero, List.getElem?_cons_succ] at ua0 ua1 ua2 ua3 ua4 ua5 ua6 ub0 ub1 ub2 ub3 ub4 ub5 ub6
            have HNV := HNV0
            clear HNV0 hck
            obtain ⟨an, cn, rfl, _⟩ := HNV.out.form
            (refine hK _ _ (fun u hu => by cases hu) ?_; clear hK K; try simp only [Act.put, List.setIfInBounds_toArray, List.set_cons_zero, List.set_cons_succ])
            (repeat (first | (apply can0; (· rfl); (· rfl); (· (intro w'; first | (go_simp; with_reducible rfl) | (go_simp; done))); simp only [Act.put, List.setIfInBounds_toArray, List.set_cons_zero, List.set_cons_succ]) | (apply can1; (· rfl); (· rfl); (· (first | (go_simp; with_reducible rfl) | (go_simp; done))); simp only [Act.put, List.setIfInBounds_toArray, List.set_cons_zero, List.set_cons_succ]) | (apply canN; (· rfl); (· rfl); simp only [Act.put, List.setIfInBounds_toArray, List.set_cons_zero, List.set_cons_succ]) | (apply canN1; (· rfl); (· rfl); simp only [Act.put, List.setIfInBounds_toArray, List.set_cons_zero, List.set_cons_succ]) | (apply can0; (· rfl); (· (go_simp; done)); (· (intro w'; first | (go_simp; with_reducible rfl) | (go_simp; done))); simp only [Act.put, List.setIfInBounds_toArray, List.set_cons_zero, List.set_cons_succ]) | (apply can1; (· rfl); (· (go_simp; done)); (· (first | (go_simp; with_reducible rfl) | (go_simp; done))); simp only [Act.put, List.setIfInBounds_toArray, List.set_cons_zero, List.set_cons_succ]) | (apply canN; (· rfl); (· (go_simp; done)); simp only [Act.put, List.setIfInBounds_toArray, List.set_cons_zero, List.set_cons_succ]) | (apply canN1; (· rfl); (· (go_simp; done)); simp only [Act.put, List.setIfInBounds_toArray, List.set_cons_zero, List.set_cons_succ])))
            refine canW rfl [] rfl (fun K hK => ?_)
            rw [if_pos (by rfl)]
            refine wp_bx _ _ rfl _ [0] rfl HV.out _ (varsL (hd4 b)) rfl HNV.out (by simp only [List.length_cons, List.length_nil]; omega) ?_
            intro v9 w9 hb9 hc9
            have HX9 : Hid (Box2 w w9 ia ib _ _) := Lib.hid ⟨hb9.2.1, HX.out.a.kept hc9 (fun hk => HV.out.1.ne HX.out.a (by decide) hk), HX.out.b.kept hc9 (fun hk => HV.out.1.ne HX.out.b (by decide) hk)⟩
            have HB9 := Lib.hid hb9
            clear hb9 hc9
            (refine hK _ _ (fun u hu => by cases hu) ?_; clear hK K; try simp only [Act.put, List.setIfInBounds_toArray, List.set_cons_zero, List.set_cons_succ])
            (repeat (first | (apply can0; (· rfl); (· rfl); (· (intro w'; first | (go_simp; with_reducible rfl) | (go_simp; done))); simp only [Act.put, List.setIfInBounds_toArray, List.set_cons_zero, List.set_cons_succ]) | (apply can1; (· rfl); (· rfl); (· (first | (go_simp; with_reducible rfl) | (go_simp; done))); simp only [Act.put, List.setIfInBounds_toArray, List.set_cons_zero, List.set_cons_succ]) | (apply canN; (· rfl); (· rfl); simp only [Act.put, List.setIfInBounds_toArray, List.set_cons_zero, List.set_cons_succ]) | (apply canN1; (· rfl); (· rfl); simp only [Act.put, List.setIfInBounds_toArray, List.set_cons_zero, List.set_cons_succ]) | (apply can0; (· rfl); (· (go_simp; done)); (· (intro w'; first | (go_simp; with_reducible rfl) | (go_simp; done))); simp only [Act.put, List.setIfInBounds_toArray, List.set_cons_zero, List.set_cons_succ]) | (apply can1; (· rfl); (· (go_simp; done)); (· (first | (go_simp; with_reducible rfl) | (go_simp; done))); simp only [Act.put, List.setIfInBounds_toArray, List.set_cons_zero, List.set_cons_succ]) | (apply canN; (· rfl); (· (go_simp; done)); simp only [Act.put, List.setIfInBounds_toArray, List.set_cons_zero, List.set_cons_succ]) | (apply canN1; (· rfl); (· (go_simp; done)); simp only [Act.put, List.setIfInBounds_toArray, List.set_cons_zero, List.set_cons_succ])))
            refine canE ?_
            go_wp2
            go_meet
            exact ⟨HB9, HX9⟩
          · skip
            refine canW rfl [2, 5, 11] rfl (fun K hK => ?_)
            go_simp
            go_at_call 21
            refine (yes_any _ b.h).mono ?_
            rintro e xx ⟨rfl, hxx⟩
            obtain rfl : w4 = xx := hxx.symm
            (refine hK _ _ (fun u hu => by (simp only [List.mem_cons, List.not_mem_nil, or_false] at hu); (first | (subst hu; exact reRun_mk rfl (by first | (go_simp; with_reducible rfl) | (go_simp; done)) (holds_at rfl)) | ((repeat' (first | (rcases hu with rfl | hu) | (subst hu))) <;> exact reRun_mk rfl (by first | (go_simp; with_reducible rfl) | (go_simp; done)) (holds_at rfl)))) ?_; clear hK K; try simp only [Act.put, List.setIfInBounds_toArray, List.set_cons_zero, List.set_cons_succ])
            (repeat (first | (apply can0; (· rfl); (· rfl); (· (intro w'; first | (go_simp; with_reducible rfl) | (go_simp; done))); simp only [Act.put, List.setIfInBounds_toArray, List.set_cons_zero, List.set_cons_succ]) | (apply can1; (· rfl); (· rfl); (· (first | (go_simp; with_reducible rfl) | (go_simp; done))); simp only [Act.put, List.setIfInBounds_toArray, List.set_cons_zero, List.set_cons_succ]) | (apply canN; (· rfl); (· rfl); simp only [Act.put, List.setIfInBounds_toArray, List.set_cons_zero, List.set_cons_succ]) | (apply canN1; (· rfl); (· rfl); simp only [Act.put, List.setIfInBounds_toArray, List.set_cons_zero, List.set_cons_succ]) | (apply can0; (· rfl); (· (go_simp; done)); (· (intro w'; first | (go_simp; with_reducible rfl) | (go_simp; done))); simp only [Act.put, List.setIfInBounds_toArray, List.set_cons_zero, List.set_cons_succ]) | (apply can1; (· rfl); (· (go_simp; done)); (· (first | (go_simp; with_reducible rfl) | (go_simp; done))); simp only [Act.put, List.setIfInBounds_toArray, List.set_cons_zero, List.set_cons_succ]) | (apply canN; (· rfl); (· (go_simp; done)); simp only [Act.put, List.setIfInBounds_toArray, List.set_cons_zero, List.set_cons_succ]) | (apply canN1; (· rfl); (· (go_simp; done)); simp only [Act.put, List.setIfInBounds_toArray, List.set_cons_zero, List.set_cons_succ])))
            refine canW rfl [2, 5, 8, 11] rfl (fun K hK => ?_)
            go_simp
            obtain ⟨w5, hw⟩ : ∃ W, World.alloc w4 (.cells #[.int .u8 0] 5) = W := ⟨_, rfl⟩
            have hck : Chg w4 w5 nob := by rw [← hw]; exact (Chg.refl w4 nob).alloc _
            have HV0 : Hid (Bx w w5 (.slice (some ⟨World.heap w4 |>.size, 0, none⟩) 1 1) [0]) := Lib.hid (by rw [← hw]; exact (Bx.lit1 w4 0).newer HX.out.chg)
            rw [hw]
            clear hw
            (try replace HV := Lib.hid (HV.out.keptC hck))
            (try replace HNU := Lib.hid (HNU.out.kept hck (fun _ _ => id)))
            (try replace HNV := Lib.hid (HNV.out.kept hck (fun _ _ => id)))
            replace HX := Lib.hid (HX.out.kept hck)
            clear ua0 ua1 ua2 ua3 ua4 ua5 ua6 ub0 ub1 ub2 ub3 ub4 ub5 ub6
            have ua0 := HX.out.a.cell 0
            have ua1 := HX.out.a.cell 1
            have ua2 := HX.out.a.cell 2
            have ua3 := HX.out.a.cell 3
            have ua4 := HX.out.a.cell 4
            have ua5 := HX.out.a.cell 5
            have ua6 := HX.out.a.cell 6
            have ub0 := HX.out.b.cell 0
            have ub1 := HX.out.b.cell 1
            have ub2 := HX.out.b.cell 2
            have ub3 := HX.out.b.cell 3
            have ub4 := HX.out.b.cell 4
            have ub5 := HX.out.b.cell 5
            have ub6 := HX.out.b.cell 6
            simp only [List.getElem?_toArray, List.getElem?_cons_zero, List.getElem?_cons_succ] at ua0 ua1 ua2 ua3 ua4 ua5 ua6 ub0 ub1 ub2 ub3 ub4 ub5 ub6
            have HV := HV0
            clear HV0 hck
            (refine hK _ _ (fun u hu => by (simp only [List.mem_cons, List.not_mem_nil, or_false] at hu); (first | (subst hu; exact reRun_mk rfl (by first | (go_simp; with_reducible rfl) | (go_simp; done)) (holds_at rfl)) | ((repeat' (first | (rcases hu with rfl | hu) | (subst hu))) <;> exact reRun_mk rfl (by first | (go_simp; with_reducible rfl) | (go_simp; done)) (holds_at rfl)))) ?_; clear hK K; try simp only [Act.put, List.setIfInBounds_toArray, List.set_cons_zero, List.set_cons_succ])
            (repeat (first | (apply can0; (· rfl); (· rfl); (· (intro w'; first | (go_simp; with_reducible rfl) | (go_simp; done))); simp only [Act.put, List.setIfInBounds_toArray, List.set_cons_zero, List.set_cons_succ]) | (apply can1; (· rfl); (· rfl); (· (first | (go_simp; with_reducible rfl) | (go_simp; done))); simp only [Act.put, List.setIfInBounds_toArray, List.set_cons_zero, List.set_cons_succ]) | (apply canN; (· rfl); (· rfl); simp only [Act.put, List.setIfInBounds_toArray, List.set_cons_zero, List.set_cons_succ]) | (apply canN1; (· rfl); (· rfl); simp only [Act.put, List.setIfInBounds_toArray, List.set_cons_zero, List.set_cons_succ]) | (apply can0; (· rfl); (· (go_simp; done)); (· (intro w'; first | (go_simp; with_reducible rfl) | (go_simp; done))); simp only [Act.put, List.setIfInBounds_toArray, List.set_cons_zero, List.set_cons_succ]) | (apply can1; (· rfl); (· (go_simp; done)); (· (first | (go_simp; with_reducible rfl) | (go_simp; done))); simp only [Act.put, List.setIfInBounds_toArray, List.set_cons_zero, List.set_cons_succ]) | (apply canN; (· rfl); (· (go_simp; done)); simp only [Act.put, List.setIfInBounds_toArray, List.set_cons_zero, List.set_cons_succ]) | (apply canN1; (· rfl); (· (go_simp; done)); simp only [Act.put, List.setIfInBounds_toArray, List.set_cons_zero, List.set_cons_succ])))
            refine canW rfl [] rfl (fun K hK => ?_)
            go_simp
            obtain ⟨w6, hw⟩ : ∃ W, World.alloc w5 (.cells #[.int .u64 (IntKind.u64.wrap b.y), .int .u64 (IntKind.u64.wrap b.x), .int .u64 (bitN b.h), .int .u64 (IntKind.u64.wrap b.t.size)] 41) = W := ⟨_, rfl⟩
            have hck : Chg w5 w6 nob := by rw [← hw]; exact (Chg.refl w5 nob).alloc _
            have HNU0 : Hid (Rd w6 1 (.slice (some ⟨World.heap w5 |>.size, 0, none⟩) 4 4) 4 (numsV (hd4 b))) := Lib.hid (by rw [← hw, hd4_V]; exact Rd.made w5 41 _ (size := 1) (n := 4) (c := 4) rfl (Nat.le_refl _))
            rw [hw]
            clear hw
            (try replace HV := Lib.hid (HV.out.keptC hck))
            (try replace HNU := Lib.hid (HNU.out.kept hck (fun _ _ => id)))
            (try replace HNV := Lib.hid (HNV.out.kept hck (fun _ _ => id)))
            replace HX := Lib.hid (HX.out.kept hck)
            clear ua0 ua1 ua2 ua3 ua4 ua5 ua6 ub0 ub1 ub2 ub3 ub4 ub5 ub6
            have ua0 := HX.out.a.cell 0
            have ua1 := HX.out.a.cell 1
            have ua2 := HX.out.a.cell 2
            have ua3 := HX.out.a.cell 3
            have ua4 := HX.out.a.cell 4
            have ua5 := HX.out.a.cell 5
            have ua6 := HX.out.a.cell 6
            have ub0 := HX.out.b.cell 0
            have ub1 := HX.out.b.cell 1
            have ub2 := HX.out.b.cell 2
            have ub3 := HX.out.b.cell 3
            have ub4 := HX.out.b.cell 4
            have ub5 := HX.out.b.cell 5
            have ub6 := HX.out.b.cell 6
            simp only [List.getElem?_toArray, List.getElem?_cons_zero, List.getElem?_cons_succ] at ua0 ua1 ua2 ua3 ua4 ua5 ua6 ub0 ub1 ub2 ub3 ub4 ub5 ub6
            have HNU := HNU0
            clear HNU0 hck
            (refine hK _ _ (fun u hu => by cases hu) ?_; clear hK K; try simp only [Act.put, List.setIfInBounds_toArray, List.set_cons_zero, List.set_cons_succ])
            (repeat (first | (apply can0; (· rfl); (· rfl); (· (intro w'; first | (go_simp; with_reducible rfl) | (go_simp; done))); simp only [Act.put, List.setIfInBounds_toArray, List.set_cons_zero, List.set_cons_succ]) | (apply can1; (· rfl); (· rfl); (· (first | (go_simp; with_reducible rfl) | (go_simp; done))); simp only [Act.put, List.setIfInBounds_toArray, List.set_cons_zero, List.set_cons_succ]) | (apply canN; (· rfl); (· rfl); simp only [Act.put, List.setIfInBounds_toArray, List.set_cons_zero, List.set_cons_succ]) | (apply canN1; (· rfl); (· rfl); simp only [Act.put, List.setIfInBounds_toArray, List.set_cons_zero, List.set_cons_succ]) | (apply can0; (· rfl); (· (go_simp; done)); (· (intro w'; first | (go_simp; with_reducible rfl) | (go_simp; done))); simp only [Act.put, List.setIfInBounds_toArray, List.set_cons_zero, List.set_cons_succ]) | (apply can1; (· rfl); (· (go_simp; done)); (· (first | (go_simp; with_reducible rfl) | (go_simp; done))); simp only [Act.put, List.setIfInBounds_toArray, List.set_cons_zero, List.set_cons_succ]) | (apply canN; (· rfl); (· (go_simp; done)); simp only [Act.put, List.setIfInBounds_toArray, List.set_cons_zero, List.set_cons_succ]) | (apply canN1; (· rfl); (· (go_simp; done)); simp only [Act.put, List.setIfInBounds_toArray, List.set_cons_zero, List.set_cons_succ])))
            refine canW rfl [] rfl (fun K hK => ?_)
            go_simp
            go_at_call 20
            refine (nums_any w6 _ (hd4 b) HNU.out (hd4_lt b) (by (show 4 ≤ 1000); decide)).mono ?_
            rintro e w7 ⟨vn, rfl, hbn⟩
            have hck := hbn.2.1
            have HNV0 := Lib.hid hbn.1
            clear HNU hbn
            (try replace HV := Lib.hid (HV.out.keptC hck))
            (try replace HNU := Lib.hid (HNU.out.kept hck (fun _ _ => id)))
            (try replace HNV := Lib.hid (HNV.out.kept hck (fun _ _ => id)))
            replace HX := Lib.hid (HX.out.kept hck)
            clear ua0 ua1 ua2 ua3 ua4 ua5 ua6 ub0 ub1 ub2 ub3 ub4 ub5 ub6
            have ua0 := HX.out.a.cell 0
            have ua1 := HX.out.a.cell 1
            have ua2 := HX.out.a.cell 2
            have ua3 := HX.out.a.cell 3
            have ua4 := HX.out.a.cell 4
            have ua5 := HX.out.a.cell 5
            have ua6 := HX.out.a.cell 6
            have ub0 := HX.out.b.cell 0
            have ub1 := HX.out.b.cell 1
            have ub2 := HX.out.b.cell 2
            have ub3 := HX.out.b.cell 3
            have ub4 := HX.out.b.cell 4
            have ub5 := HX.out.b.cell 5
            have ub6 := HX.out.b.cell 6
            simp only [List.getElem?_toArray, List.getElem?_cons_zero, List.getElem?_cons_succ] at ua0 ua1 ua2 ua3 ua4 ua5 ua6 ub0 ub1 ub2 ub3 ub4 ub5 ub6
            have HNV := HNV0
            clear HNV0 hck
            obtain ⟨an, cn, rfl, _⟩ := HNV.out.form
            (refine hK _ _ (fun u hu => by cases hu) ?_; clear hK K; try simp only [Act.put, List.setIfInBounds_toArray, List.set_cons_zero, List.set_cons_succ])
            (repeat (first | (apply can0; (· rfl); (· rfl); (· (intro w'; first | (go_simp; with_reducible rfl) | (go_simp; done))); simp only [Act.put, List.setIfInBounds_toArray, List.set_cons_zero, List.set_cons_succ]) | (apply can1; (· rfl); (· rfl); (· (first | (go_simp; with_reducible rfl) | (go_simp; done))); simp only [Act.put, List.setIfInBounds_toArray, List.set_cons_zero, List.set_cons_succ]) | (apply canN; (· rfl); (· rfl); simp only [Act.put, List.setIfInBounds_toArray, List.set_cons_zero, List.set_cons_succ]) | (apply canN1; (· rfl); (· rfl); simp only [Act.put, List.setIfInBounds_toArray, List.set_cons_zero, List.set_cons_succ]) | (apply can0; (· rfl); (· (go_simp; done)); (· (intro w'; first | (go_simp; with_reducible rfl) | (go_simp; done))); simp only [Act.put, List.setIfInBounds_toArray, List.set_cons_zero, List.set_cons_succ]) | (apply can1; (· rfl); (· (go_simp; done)); (· (first | (go_simp; with_reducible rfl) | (go_simp; done))); simp only [Act.put, List.setIfInBounds_toArray, List.set_cons_zero, List.set_cons_succ]) | (apply canN; (· rfl); (· (go_simp; done)); simp only [Act.put, List.setIfInBounds_toArray, List.set_cons_zero, List.set_cons_succ]) | (apply canN1; (· rfl); (· (go_simp; done)); simp only [Act.put, List.setIfInBounds_toArray, List.set_cons_zero, List.set_cons_succ])))
            refine canW rfl [] rfl (fun K hK => ?_)
            rw [if_pos (by rfl)]
            refine wp_bx _ _ rfl _ [0] rfl HV.out _ (varsL (hd4 b)) rfl HNV.out (by simp only [List.length_cons, List.length_nil]; omega) ?_
            intro v9 w9 hb9 hc9
            have HX9 : Hid (Box2 w w9 ia ib _ _) := Lib.hid ⟨hb9.2.1, HX.out.a.kept hc9 (fun hk => HV.out.1.ne HX.out.a (by decide) hk), HX.out.b.kept hc9 (fun hk => HV.out.1.ne HX.out.b (by decide) hk)⟩
            have HB9 := Lib.hid hb9
            clear hb9 hc9
            (refine hK _ _ (fun u hu => by cases hu) ?_; clear hK K; try simp only [Act.put, List.setIfInBounds_toArray, List.set_cons_zero, List.set_cons_succ])
            (repeat (first | (apply can0; (· rfl); (· rfl); (· (intro w'; first | (go_simp; with_reducible rfl) | (go_simp; done))); simp only [Act.put, List.setIfInBounds_toArray, List.set_cons_zero, List.set_cons_succ]) | (apply can1; (· rfl); (· rfl); (· (first | (go_simp; with_reducible rfl) | (go_simp; done))); simp only [Act.put, List.setIfInBounds_toArray, List.set_cons_zero, List.set_cons_succ]) | (apply canN; (· rfl); (· rfl); simp only [Act.put, List.setIfInBounds_toArray, List.set_cons_zero, List.set_cons_succ]) | (apply canN1; (· rfl); (· rfl); simp only [Act.put, List.setIfInBounds_toArray, List.set_cons_zero, List.set_cons_succ]) | (apply can0; (· rfl); (· (go_simp; done)); (· (intro w'; first | (go_simp; with_reducible rfl) | (go_simp; done))); simp only [Act.put, List.setIfInBounds_toArray, List.set_cons_zero, List.set_cons_succ]) | (apply can1; (· rfl); (· (go_simp; done)); (· (first | (go_simp; with_reducible rfl) | (go_simp; done))); simp only [Act.put, List.setIfInBounds_toArray, List.set_cons_zero, List.set_cons_succ]) | (apply canN; (· rfl); (· (go_simp; done)); simp only [Act.put, List.setIfInBounds_toArray, List.set_cons_zero, List.set_cons_succ]) | (apply canN1; (· rfl); (· (go_simp; done)); simp only [Act.put, List.setIfInBounds_toArray, List.set_cons_zero, List.set_cons_succ])))
            refine canE ?_
            go_wp2
            go_meet
            exact ⟨HB9, HX9⟩
          · skip
            refine canW rfl [2, 5, 11] rfl (fun K hK => ?_)
            go_simp
            go_at_call 21
            refine (yes_any _ b.h).mono ?_
            rintro e xx ⟨rfl, hxx⟩
            obtain rfl : w4 = xx := hxx.symm
            (refine hK _ _ (fun u hu => by (simp only [List.mem_cons, List.not_mem_nil, or_false] at hu); (first | (subst hu; exact reRun_mk rfl (by first | (go_simp; with_reducible rfl) | (go_simp; done)) (holds_at rfl)) | ((repeat' (first | (rcases hu with rfl | hu) | (subst hu))) <;> exact reRun_mk rfl (by first | (go_simp; with_reducible rfl) | (go_simp; done)) (holds_at rfl)))) ?_; clear hK K; try simp only [Act.put, List.setIfInBounds_toArray, List.set_cons_zero, List.set_cons_succ])
            (repeat (first | (apply can0; (· rfl); (· rfl); (· (intro w'; first | (go_simp; with_reducible rfl) | (go_simp; done))); simp only [Act.put, List.setIfInBounds_toArray, List.set_cons_zero, List.set_cons_succ]) | (apply can1; (· rfl); (· rfl); (· (first | (go_simp; with_reducible rfl) | (go_simp; done))); simp only [Act.put, List.setIfInBounds_toArray, List.set_cons_zero, List.set_cons_succ]) | (apply canN; (· rfl); (· rfl); simp only [Act.put, List.setIfInBounds_toArray, List.set_cons_zero, List.set_cons_succ]) | (apply canN1; (· rfl); (· rfl); simp only [Act.put, List.setIfInBounds_toArray, List.set_cons_zero, List.set_cons_succ]) | (apply can0; (· rfl); (· (go_simp; done)); (· (intro w'; first | (go_simp; with_reducible rfl) | (go_simp; done))); simp only [Act.put, List.setIfInBounds_toArray, List.set_cons_zero, List.set_cons_succ]) | (apply can1; (· rfl); (· (go_simp; done)); (· (first | (go_simp; with_reducible rfl) | (go_simp; done))); simp only [Act.put, List.setIfInBounds_toArray, List.set_cons_zero, List.set_cons_succ]) | (apply canN; (· rfl); (· (go_simp; done)); simp only [Act.put, List.setIfInBounds_toArray, List.set_cons_zero, List.set_cons_succ]) | (apply canN1; (· rfl); (· (go_simp; done)); simp only [Act.put, List.setIfInBounds_toArray, List.set_cons_zero, List.set_cons_succ])))
            refine canW rfl [] rfl (fun K hK => ?_)
            go_simp
            obtain ⟨w5, hw⟩ : ∃ W, World.alloc w4 (.cells #[.int .u64 (IntKind.u64.wrap b.y), .int .u64 (IntKind.u64.wrap b.x), .int .u64 (bitN b.h), .int .u64 (IntKind.u64.wrap b.t.size)] 41) = W := ⟨_, rfl⟩
            have hck : Chg w4 w5 nob := by rw [← hw]; exact (Chg.refl w4 nob).alloc _
            have HNU0 : Hid (Rd w5 1 (.slice (some ⟨World.heap w4 |>.size, 0, none⟩) 4 4) 4 (numsV (hd4 b))) := Lib.hid (by rw [← hw, hd4_V]; exact Rd.made w4 41 _ (size := 1) (n := 4) (c := 4) rfl (Nat.le_refl _))
            rw [hw]
            clear hw
            (try replace HV := Lib.hid (HV.out.keptC hck))
            (try replace HNU := Lib.hid (HNU.out.kept hck (fun _ _ => id)))
            (try replace HNV := Lib.hid (HNV.out.kept hck (fun _ _ => id)))
            replace HX := Lib.hid (HX.out.kept hck)
            clear ua0 ua1 ua2 ua3 ua4 ua5 ua6 ub0 ub1 ub2 ub3 ub4 ub5 ub6
            have ua0 := HX.out.a.cell 0
            have ua1 := HX.out.a.cell 1
            have ua2 := HX.out.a.cell 2
            have ua3 := HX.out.a.cell 3
            have ua4 := HX.out.a.cell 4
            have ua5 := HX.out.a.cell 5
            have ua6 := HX.out.a.cell 6
            have ub0 := HX.out.b.cell 0
            have ub1 := HX.out.b.cell 1
            have ub2 := HX.out.b.cell 2
            have ub3 := HX.out.b.cell 3
            have ub4 := HX.out.b.cell 4
            have ub5 := HX.out.b.cell 5
            have ub6 := HX.out.b.cell 6
            simp only [List.getElem?_toArray, List.getElem?_cons_zero, List.getElem?_cons_succ] at ua0 ua1 ua2 ua3 ua4 ua5 ua6 ub0 ub1 ub2 ub3 ub4 ub5 ub6
            have HNU := HNU0
            clear HNU0 hck
            (refine hK _ _ (fun u hu => by cases hu) ?_; clear hK K; try simp only [Act.put, List.setIfInBounds_toArray, List.set_cons_zero, List.set_cons_succ])
            (repeat (first | (apply can0; (· rfl); (· rfl); (· (intro w'; first | (go_simp; with_reducible rfl) | (go_simp; done))); simp only [Act.put, List.setIfInBounds_toArray, List.set_cons_zero, List.set_cons_succ]) | (apply can1; (· rfl); (· rfl); (· (first | (go_simp; with_reducible rfl) | (go_simp; done))); simp only [Act.put, List.setIfInBounds_toArray, List.set_cons_zero, List.set_cons_succ]) | (apply canN; (· rfl); (· rfl); simp only [Act.put, List.setIfInBounds_toArray, List.set_cons_zero, List.set_cons_succ]) | (apply canN1; (· rfl); (· rfl); simp only [Act.put, List.setIfInBounds_toArray, List.set_cons_zero, List.set_cons_succ]) | (apply can0; (· rfl); (· (go_simp; done)); (· (intro w'; first | (go_simp; with_reducible rfl) | (go_simp; done))); simp only [Act.put, List.setIfInBounds_toArray, List.set_cons_zero, List.set_cons_succ]) | (apply can1; (· rfl); (· (go_simp; done)); (· (first | (go_simp; with_reducible rfl) | (go_simp; done))); simp only [Act.put, List.setIfInBounds_toArray, List.set_cons_zero, List.set_cons_succ]) | (apply canN; (· rfl); (· (go_simp; done)); simp only [Act.put, List.setIfInBounds_toArray, List.set_cons_zero, List.set_cons_succ]) | (apply canN1; (· rfl); (· (go_simp; done)); simp only [Act.put, List.setIfInBounds_toArray, List.set_cons_zero, List.set_cons_succ])))
            refine canW rfl [2, 5, 8, 11] rfl (fun K hK => ?_)
            go_simp
            obtain ⟨w6, hw⟩ : ∃ W, World.alloc w5 (.cells #[.int .u8 0] 5) = W := ⟨_, rfl⟩
            have hck : Chg w5 w6 nob := by rw [← hw]; exact (Chg.refl w5 nob).alloc _
            have HV0 : Hid (Bx w w6 (.slice (some ⟨World.heap w5 |>.size, 0, none⟩) 1 1) [0]) := Lib.hid (by rw [← hw]; exact (Bx.lit1 w5 0).newer HX.out.chg)
            rw [hw]
            clear hw
            (try replace HV := Lib.hid (HV.out.keptC hck))
            (try replace HNU := Lib.hid (HNU.out.kept hck (fun _ _ => id)))
            (try replace HNV := Lib.hid (HNV.out.kept hck (fun _ _ => id)))
            replace HX := Lib.hid (HX.out.kept hck)
            clear ua0 ua1 ua2 ua3 ua4 ua5 ua6 ub0 ub1 ub2 ub3 ub4 ub5 ub6
            have ua0 := HX.out.a.cell 0
            have ua1 := HX.out.a.cell 1
            have ua2 := HX.out.a.cell 2
            have ua3 := HX.out.a.cell 3
            have ua4 := HX.out.a.cell 4
            have ua5 := HX.out.a.cell 5
            have ua6 := HX.out.a.cell 6
            have ub0 := HX.out.b.cell 0
            have ub1 := HX.out.b.cell 1
            have ub2 := HX.out.b.cell 2
            have ub3 := HX.out.b.cell 3
            have ub4 := HX.out.b.cell 4
            have ub5 := HX.out.b.cell 5
            have ub6 := HX.out.b.cell 6
            simp only [List.getElem?_toArray, List.getElem?_cons_zero, List.getElem?_cons_succ] at ua0 ua1 ua2 ua3 ua4 ua5 ua6 ub0 ub1 ub2 ub3 ub4 ub5 ub6
            have HV := HV0
            clear HV0 hck
            (refine hK _ _ (fun u hu => by (simp only [List.mem_cons, List.not_mem_nil, or_false] at hu); (first | (subst hu; exact reRun_mk rfl (by first | (go_simp; with_reducible rfl) | (go_simp; done)) (holds_at rfl)) | ((repeat' (first | (rcases hu with rfl | hu) | (subst hu))) <;> exact reRun_mk rfl (by first | (go_simp; with_reducible rfl) | (go_simp; done)) (holds_at rfl)))) ?_; clear hK K; try simp only [Act.put, List.setIfInBounds_toArray, List.set_cons_zero, List.set_cons_succ])
            (repeat (first | (apply can0; (· rfl); (· rfl); (· (intro w'; first | (go_simp; with_reducible rfl) | (go_simp; done))); simp only [Act.put, List.setIfInBounds_toArray, List.set_cons_zero, List.set_cons_succ]) | (apply can1; (· rfl); (· rfl); (· (first | (go_simp; with_reducible rfl) | (go_simp; done))); simp only [Act.put, List.setIfInBounds_toArray, List.set_cons_zero, List.set_cons_succ]) | (apply canN; (· rfl); (· rfl); simp only [Act.put, List.setIfInBounds_toArray, List.set_cons_zero, List.set_cons_succ]) | (apply canN1; (· rfl); (· rfl); simp only [Act.put, List.setIfInBounds_toArray, List.set_cons_zero, List.set_cons_succ]) | (apply can0; (· rfl); (· (go_simp; done)); (· (intro w'; first | (go_simp; with_reducible rfl) | (go_simp; done))); simp only [Act.put, List.setIfInBounds_toArray, List.set_cons_zero, List.set_cons_succ]) | (apply can1; (· rfl); (· (go_simp; done)); (· (first | (go_simp; with_reducible rfl) | (go_simp; done))); simp only [Act.put, List.setIfInBounds_toArray, List.set_cons_zero, List.set_cons_succ]) | (apply canN; (· rfl); (· (go_simp; done)); simp only [Act.put, List.setIfInBounds_toArray, List.set_cons_zero, List.set_cons_succ]) | (apply canN1; (· rfl); (· (go_simp; done)); simp only [Act.put, List.setIfInBounds_toArray, List.set_cons_zero, List.set_cons_succ])))
            refine canW rfl [] rfl (fun K hK => ?_)
            go_simp
            go_at_call 20
            refine (nums_any w6 _ (hd4 b) HNU.out (hd4_lt b) (by (show 4 ≤ 1000); decide)).mono ?_
            rintro e w7 ⟨vn, rfl, hbn⟩
            have hck := hbn.2.1
            have HNV0 := Lib.hid hbn.1
            clear HNU hbn
            (try replace HV := Lib.hid (HV.out.keptC hck))
            (try replace HNU := Lib.hid (HNU.out.kept hck (fun _ _ => id)))
            (try replace HNV := Lib.hid (HNV.out.kept hck (fun _ _ => id)))
            replace HX := Lib.hid (HX.out.kept hck)
            clear ua0 ua1 ua2 ua3 ua4 ua5 ua6 ub0 ub1 ub2 ub3 ub4 ub5 ub6
            have ua0 := HX.out.a.cell 0
            have ua1 := HX.out.a.cell 1
            have ua2 := HX.out.a.cell 2
            have ua3 := HX.out.a.cell 3
            have ua4 := HX.out.a.cell 4
            have ua5 := HX.out.a.cell 5
            have ua6 := HX.out.a.cell 6
            have ub0 := HX.out.b.cell 0
            have ub1 := HX.out.b.cell 1
            have ub2 := HX.out.b.cell 2
            have ub3 := HX.out.b.cell 3
            have ub4 := HX.out.b.cell 4
            have ub5 := HX.out.b.cell 5
            have ub6 := HX.out.b.cell 6
            simp only [List.getElem?_toArray, List.getElem?_cons_zero, List.getElem?_cons_succ] at ua0 ua1 ua2 ua3 ua4 ua5 ua6 ub0 ub1 ub2 ub3 ub4 ub5 ub6
            have HNV := HNV0
            clear HNV0 hck
            obtain ⟨an, cn, rfl, _⟩ := HNV.out.form
            (refine hK _ _ (fun u hu => by cases hu) ?_; clear hK K; try simp only [Act.put, List.setIfInBounds_toArray, List.set_cons_zero, List.set_cons_succ])
            (repeat (first | (apply can0; (· rfl); (· rfl); (· (intro w'; first | (go_simp; with_reducible rfl) | (go_simp; done))); simp only [Act.put, List.setIfInBounds_toArray, List.set_cons_zero, List.set_cons_succ]) | (apply can1; (· rfl); (· rfl); (· (first | (go_simp; with_reducible rfl) | (go_simp; done))); simp only [Act.put, List.setIfInBounds_toArray, List.set_cons_zero, List.set_cons_succ]) | (apply canN; (· rfl); (· rfl); simp only [Act.put, List.setIfInBounds_toArray, List.set_cons_zero, List.set_cons_succ]) | (apply canN1; (· rfl); (· rfl); simp only [Act.put, List.setIfInBounds_toArray, List.set_cons_zero, List.set_cons_succ]) | (apply can0; (· rfl); (· (go_simp; done)); (· (intro w'; first | (go_simp; with_reducible rfl) | (go_simp; done))); simp only [Act.put, List.setIfInBounds_toArray, List.set_cons_zero, List.set_cons_succ]) | (apply can1; (· rfl); (· (go_simp; done)); (· (first | (go_simp; with_reducible rfl) | (go_simp; done))); simp only [Act.put, List.setIfInBounds_toArray, List.set_cons_zero, List.set_cons_succ]) | (apply canN; (· rfl); (· (go_simp; done)); simp only [Act.put, List.setIfInBounds_toArray, List.set_cons_zero, List.set_cons_succ]) | (apply canN1; (· rfl); (· (go_simp; done)); simp only [Act.put, List.setIfInBounds_toArray, List.set_cons_zero, List.set_cons_succ])))
            refine canW rfl [] rfl (fun K hK => ?_)
            rw [if_pos (by rfl)]
            refine wp_bx _ _ rfl _ [0] rfl HV.out _ (varsL (hd4 b)) rfl HNV.out (by simp only [List.length_cons, List.length_nil]; omega) ?_
            intro v9 w9 hb9 hc9
            have HX9 : Hid (Box2 w w9 ia ib _ _) := Lib.hid ⟨hb9.2.1, HX.out.a.kept hc9 (fun hk => HV.out.1.ne HX.out.a (by decide) hk), HX.out.b.kept hc9 (fun hk => HV.out.1.ne HX.out.b (by decide) hk)⟩
            have HB9 := Lib.hid hb9
            clear hb9 hc9
            (refine hK _ _ (fun u hu => by cases hu) ?_; clear hK K; try simp only [Act.put, List.setIfInBounds_toArray, List.set_cons_zero, List.set_cons_succ])
            (repeat (first | (apply can0; (· rfl); (· rfl); (· (intro w'; first | (go_simp; with_reducible rfl) | (go_simp; done))); simp only [Act.put, List.setIfInBounds_toArray, List.set_cons_zero, List.set_cons_succ]) | (apply can1; (· rfl); (· rfl); (· (first | (go_simp; with_reducible rfl) | (go_simp; done))); simp only [Act.put, List.setIfInBounds_toArray, List.set_cons_zero, List.set_cons_succ]) | (apply canN; (· rfl); (· rfl); simp only [Act.put, List.setIfInBounds_toArray, List.set_cons_zero, List.set_cons_succ]) | (apply canN1; (· rfl); (· rfl); simp only [Act.put, List.setIfInBounds_toArray, List.set_cons_zero, List.set_cons_succ]) | (apply can0; (· rfl); (· (go_simp; done)); (· (intro w'; first | (go_simp; with_reducible rfl) | (go_simp; done))); simp only [Act.put, List.setIfInBounds_toArray, List.set_cons_zero, List.set_cons_succ]) | (apply can1; (· rfl); (· (go_simp; done)); (· (first | (go_simp; with_reducible rfl) | (go_simp; done))); simp only [Act.put, List.setIfInBounds_toArray, List.set_cons_zero, List.set_cons_succ]) | (apply canN; (· rfl); (· (go_simp; done)); simp only [Act.put, List.setIfInBounds_toArray, List.set_cons_zero, List.set_cons_succ]) | (apply canN1; (· rfl); (· (go_simp; done)); simp only [Act.put, List.setIfInBounds_toArray, List.set_cons_zero, List.set_cons_succ])))
            refine canE ?_
            go_wp2
            go_meet
            exact ⟨HB9, HX9⟩
          · skip
            refine canW rfl [2, 5, 11] rfl (fun K hK => ?_)
            go_simp
            go_at_call 21
            refine (yes_any _ b.h).mono ?_
            rintro e xx ⟨rfl, hxx⟩
            obtain rfl : w4 = xx := hxx.symm
            (refine hK _ _ (fun u hu => by (simp only [List.mem_cons, List.not_mem_nil, or_false] at hu); (first | (subst hu; exact reRun_mk rfl (by first | (go_simp; with_reducible rfl) | (go_simp; done)) (holds_at rfl)) | ((repeat' (first | (rcases hu with rfl | hu) | (subst hu))) <;> exact reRun_mk rfl (by first | (go_simp; with_reducible rfl) | (go_simp; done)) (holds_at rfl)))) ?_; clear hK K; try simp only [Act.put, List.setIfInBounds_toArray, List.set_cons_zero, List.set_cons_succ])
            (repeat (first | (apply can0; (· rfl); (· rfl); (· (intro w'; first | (go_simp; with_reducible rfl) | (go_simp; done))); simp only [Act.put, List.setIfInBounds_toArray, List.set_cons_zero, List.set_cons_succ]) | (apply can1; (· rfl); (· rfl); (· (first | (go_simp; with_reducible rfl) | (go_simp; done))); simp only [Act.put, List.setIfInBounds_toArray, List.set_cons_zero, List.set_cons_succ]) | (apply canN; (· rfl); (· rfl); simp only [Act.put, List.setIfInBounds_toArray, List.set_cons_zero, List.set_cons_succ]) | (apply canN1; (· rfl); (· rfl); simp only [Act.put, List.setIfInBounds_toArray, List.set_cons_zero, List.set_cons_succ]) | (apply can0; (· rfl); (· (go_simp; done)); (· (intro w'; first | (go_simp; with_reducible rfl) | (go_simp; done))); simp only [Act.put, List.setIfInBounds_toArray, List.set_cons_zero, List.set_cons_succ]) | (apply can1; (· rfl); (· (go_simp; done)); (· (first | (go_simp; with_reducible rfl) | (go_simp; done))); simp only [Act.put, List.setIfInBounds_toArray, List.set_cons_zero, List.set_cons_succ]) | (apply canN; (· rfl); (· (go_simp; done)); simp only [Act.put, List.setIfInBounds_toArray, List.set_cons_zero, List.set_cons_succ]) | (apply canN1; (· rfl); (· (go_simp; done)); simp only [Act.put, List.setIfInBounds_toArray, List.set_cons_zero, List.set_cons_succ])))
            refine canW rfl [] rfl (fun K hK => ?_)
            go_simp
            obtain ⟨w5, hw⟩ : ∃ W, World.alloc w4 (.cells #[.int .u64 (IntKind.u64.wrap b.y), .int .u64 (IntKind.u64.wrap b.x), .int .u64 (bitN b.h), .int .u64 (IntKind.u64.wrap b.t.size)] 41) = W := ⟨_, rfl⟩
            have hck : Chg w4 w5 nob := by rw [← hw]; exact (Chg.refl w4 nob).alloc _
            have HNU0 : Hid (Rd w5 1 (.slice (some ⟨World.heap w4 |>.size, 0, none⟩) 4 4) 4 (numsV (hd4 b))) := Lib.hid (by rw [← hw, hd4_V]; exact Rd.made w4 41 _ (size := 1) (n := 4) (c := 4) rfl (Nat.le_refl _))
            rw [hw]
            clear hw
            (try replace HV := Lib.hid (HV.out.keptC hck))
            (try replace HNU := Lib.hid (HNU.out.kept hck (fun _ _ => id)))
            (try replace HNV := Lib.hid (HNV.out.kept hck (fun _ _ => id)))
            replace HX := Lib.hid (HX.out.kept hck)
            clear ua0 ua1 ua2 ua3 ua4 ua5 ua6 ub0 ub1 ub2 ub3 ub4 ub5 ub6
            have ua0 := HX.out.a.cell 0
            have ua1 := HX.out.a.cell 1
            have ua2 := HX.out.a.cell 2
            have ua3 := HX.out.a.cell 3
            have ua4 := HX.out.a.cell 4
            have ua5 := HX.out.a.cell 5
            have ua6 := HX.out.a.cell 6
            have ub0 := HX.out.b.cell 0
            have ub1 := HX.out.b.cell 1
            have ub2 := HX.out.b.cell 2
            have ub3 := HX.out.b.cell 3
            have ub4 := HX.out.b.cell 4
            have ub5 := HX.out.b.cell 5
            have ub6 := HX.out.b.cell 6
            simp only [List.getElem?_toArray, List.getElem?_cons_zero, List.getElem?_cons_succ] at ua0 ua1 ua2 ua3 ua4 ua5 ua6 ub0 ub1 ub2 ub3 ub4 ub5 ub6
            have HNU := HNU0
            clear HNU0 hck
            (refine hK _ _ (fun u hu => by cases hu) ?_; clear hK K; try simp only [Act.put, List.setIfInBounds_toArray, List.set_cons_zero, List.set_cons_succ])
            (repeat (first | (apply can0; (· rfl); (· rfl); (· (intro w'; first | (go_simp; with_reducible rfl) | (go_simp; done))); simp only [Act.put, List.setIfInBounds_toArray, List.set_cons_zero, List.set_cons_succ]) | (apply can1; (· rfl); (· rfl); (· (first | (go_simp; with_reducible rfl) | (go_simp; done))); simp only [Act.put, List.setIfInBounds_toArray, List.set_cons_zero, List.set_cons_succ]) | (apply canN; (· rfl); (· rfl); simp only [Act.put, List.setIfInBounds_toArray, List.set_cons_zero, List.set_cons_succ]) | (apply canN1; (· rfl); (· rfl); simp only [Act.put, List.setIfInBounds_toArray, List.set_cons_zero, List.set_cons_succ]) | (apply can0; (· rfl); (· (go_simp; done)); (· (intro w'; first | (go_simp; with_reducible rfl) | (go_simp; done))); simp only [Act.put, List.setIfInBounds_toArray, List.set_cons_zero, List.set_cons_succ]) | (apply can1; (· rfl); (· (go_simp; done)); (· (first | (go_simp; with_reducible rfl) | (go_simp; done))); simp only [Act.put, List.setIfInBounds_toArray, List.set_cons_zero, List.set_cons_succ]) | (apply canN; (· rfl); (· (go_simp; done)); simp only [Act.put, List.setIfInBounds_toArray, List.set_cons_zero, List.set_cons_succ]) | (apply canN1; (· rfl); (· (go_simp; done)); simp only [Act.put, List.setIfInBounds_toArray, List.set_cons_zero, List.set_cons_succ])))
            refine canW rfl [] rfl (fun K hK => ?_)
            go_simp
            go_at_call 20
            refine (nums_any w5 _ (hd4 b) HNU.out (hd4_lt b) (by (show 4 ≤ 1000); decide)).mono ?_
            rintro e w6 ⟨vn, rfl, hbn⟩
            have hck := hbn.2.1
            have HNV0 := Lib.hid hbn.1
            clear HNU hbn
            (try replace HV := Lib.hid (HV.out.keptC hck))
            (try replace HNU := Lib.hid (HNU.out.kept hck (fun _ _ => id)))
            (try replace HNV := Lib.hid (HNV.out.kept hck (fun _ _ => id)))
            replace HX := Lib.hid (HX.out.kept hck)
            clear ua0 ua1 ua2 ua3 ua4 ua5 ua6 ub0 ub1 ub2 ub3 ub4 ub5 ub6
            have ua0 := HX.out.a.cell 0
            have ua1 := HX.out.a.cell 1
            have ua2 := HX.out.a.cell 2
            have ua3 := HX.out.a.cell 3
            have ua4 := HX.out.a.cell 4
            have ua5 := HX.out.a.cell 5
            have ua6 := HX.out.a.cell 6
            have ub0 := HX.out.b.cell 0
            have ub1 := HX.out.b.cell 1
            have ub2 := HX.out.b.cell 2
            have ub3 := HX.out.b.cell 3
            have ub4 := HX.out.b.cell 4
            have ub5 := HX.out.b.cell 5
            have ub6 := HX.out.b.cell 6
            simp only [List.getElem?_toArray, List.getElem?_cons_zero, List.getElem?_cons_succ] at ua0 ua1 ua2 ua3 ua4 ua5 ua6 ub0 ub1 ub2 ub3 ub4 ub5 ub6
            have HNV := HNV0
            clear HNV0 hck
            obtain ⟨an, cn, rfl, _⟩ := HNV.out.form
            (refine hK _ _ (fun u hu => by cases hu) ?_; clear hK K; try simp only [Act.put, List.setIfInBounds_toArray, List.set_cons_zero, List.set_cons_succ])
            (repeat (first | (apply can0; (· rfl); (· rfl); (· (intro w'; first | (go_simp; with_reducible rfl) | (go_simp; done))); simp only [Act.put, List.setIfInBounds_toArray, List.set_cons_zero, List.set_cons_succ]) | (apply can1; (· rfl); (· rfl); (· (first | (go_simp; with_reducible rfl) | (go_simp; done))); simp only [Act.put, List.setIfInBounds_toArray, List.set_cons_zero, List.set_cons_succ]) | (apply canN; (· rfl); (· rfl); simp only [Act.put, List.setIfInBounds_toArray, List.set_cons_zero, List.set_cons_succ]) | (apply canN1; (· rfl); (· rfl); simp only [Act.put, List.setIfInBounds_toArray, List.set_cons_zero, List.set_cons_succ]) | (apply can0; (· rfl); (· (go_simp; done)); (· (intro w'; first | (go_simp; with_reducible rfl) | (go_simp; done))); simp only [Act.put, List.setIfInBounds_toArray, List.set_cons_zero, List.set_cons_succ]) | (apply can1; (· rfl); (· (go_simp; done)); (· (first | (go_simp; with_reducible rfl) | (go_simp; done))); simp only [Act.put, List.setIfInBounds_toArray, List.set_cons_zero, List.set_cons_succ]) | (apply canN; (· rfl); (· (go_simp; done)); simp only [Act.put, List.setIfInBounds_toArray, List.set_cons_zero, List.set_cons_succ]) | (apply canN1; (· rfl); (· (go_simp; done)); simp only [Act.put, List.setIfInBounds_toArray, List.set_cons_zero, List.set_cons_succ])))
            refine canW rfl [2, 5, 8, 11] rfl (fun K hK => ?_)
            go_simp
            obtain ⟨w7, hw⟩ : ∃ W, World.alloc w6 (.cells #[.int .u8 0] 5) = W := ⟨_, rfl⟩
            have hck : Chg w6 w7 nob := by rw [← hw]; exact (Chg.refl w6 nob).alloc _
            have HV0 : Hid (Bx w w7 (.slice (some ⟨World.heap w6 |>.size, 0, none⟩) 1 1) [0]) := Lib.hid (by rw [← hw]; exact (Bx.lit1 w6 0).newer HX.out.chg)
            rw [hw]
            clear hw
            (try replace HV := Lib.hid (HV.out.keptC hck))
            (try replace HNU := Lib.hid (HNU.out.kept hck (fun _ _ => id)))
            (try replace HNV := Lib.hid (HNV.out.kept hck (fun _ _ => id)))
            replace HX := Lib.hid (HX.out.kept hck)
            clear ua0 ua1 ua2 ua3 ua4 ua5 ua6 ub0 ub1 ub2 ub3 ub4 ub5 ub6
            have ua0 := HX.out.a.cell 0
            have ua1 := HX.out.a.cell 1
            have ua2 := HX.out.a.cell 2
            have ua3 := HX.out.a.cell 3
            have ua4 := HX.out.a.cell 4
            have ua5 := HX.out.a.cell 5
            have ua6 := HX.out.a.cell 6
            have ub0 := HX.out.b.cell 0
            have ub1 := HX.out.b.cell 1
            have ub2 := HX.out.b.cell 2
            have ub3 := HX.out.b.cell 3
            have ub4 := HX.out.b.cell 4
            have ub5 := HX.out.b.cell 5
            have ub6 := HX.out.b.cell 6
            simp only [List.getElem?_toArray, List.getElem?_cons_zero, List.getElem?_cons_succ] at ua0 ua1 ua2 ua3 ua4 ua5 ua6 ub0 ub1 ub2 ub3 ub4 ub5 ub6
            have HV := HV0
            clear HV0 hck
            (refine hK _ _ (fun u hu => by (simp only [List.mem_cons, List.not_mem_nil, or_false] at hu); (first | (subst hu; exact reRun_mk rfl (by first | (go_simp; with_reducible rfl) | (go_simp; done)) (holds_at rfl)) | ((repeat' (first | (rcases hu with rfl | hu) | (subst hu))) <;> exact reRun_mk rfl (by first | (go_simp; with_reducible rfl) | (go_simp; done)) (holds_at rfl)))) ?_; clear hK K; try simp only [Act.put, List.setIfInBounds_toArray, List.set_cons_zero, List.set_cons_succ])
            (repeat (first | (apply can0; (· rfl); (· rfl); (· (intro w'; first | (go_simp; with_reducible rfl) | (go_simp; done))); simp only [Act.put, List.setIfInBounds_toArray, List.set_cons_zero, List.set_cons_succ]) | (apply can1; (· rfl); (· rfl); (· (first | (go_simp; with_reducible rfl) | (go_simp; done))); simp only [Act.put, List.setIfInBounds_toArray, List.set_cons_zero, List.set_cons_succ]) | (apply canN; (· rfl); (· rfl); simp only [Act.put, List.setIfInBounds_toArray, List.set_cons_zero, List.set_cons_succ]) | (apply canN1; (· rfl); (· rfl); simp only [Act.put, List.setIfInBounds_toArray, List.set_cons_zero, List.set_cons_succ]) | (apply can0; (· rfl); (· (go_simp; done)); (· (intro w'; first | (go_simp; with_reducible rfl) | (go_simp; done))); simp only [Act.put, List.setIfInBounds_toArray, List.set_cons_zero, List.set_cons_succ]) | (apply can1; (· rfl); (· (go_simp; done)); (· (first | (go_simp; with_reducible rfl) | (go_simp; done))); simp only [Act.put, List.setIfInBounds_toArray, List.set_cons_zero, List.set_cons_succ]) | (apply canN; (· rfl); (· (go_simp; done)); simp only [Act.put, List.setIfInBounds_toArray, List.set_cons_zero, List.set_cons_succ]) | (apply canN1; (· rfl); (· (go_simp; done)); simp only [Act.put, List.setIfInBounds_toArray, List.set_cons_zero, List.set_cons_succ])))
            refine canW rfl [] rfl (fun K hK => ?_)
            rw [if_pos (by rfl)]
            refine wp_bx _ _ rfl _ [0] rfl HV.out _ (varsL (hd4 b)) rfl HNV.out (by simp only [List.length_cons, List.length_nil]; omega) ?_
            intro v9 w9 hb9 hc9
            have HX9 : Hid (Box2 w w9 ia ib _ _) := Lib.hid ⟨hb9.2.1, HX.out.a.kept hc9 (fun hk => HV.out.1.ne HX.out.a (by decide) hk), HX.out.b.kept hc9 (fun hk => HV.out.1.ne HX.out.b (by decide) hk)⟩
            have HB9 := Lib.hid hb9
            clear hb9 hc9
            (refine hK _ _ (fun u hu => by cases hu) ?_; clear hK K; try simp only [Act.put, List.setIfInBounds_toArray, List.set_cons_zero, List.set_cons_succ])
            (repeat (first | (apply can0; (· rfl); (· rfl); (· (intro w'; first | (go_simp; with_reducible rfl) | (go_simp; done))); simp only [Act.put, List.setIfInBounds_toArray, List.set_cons_zero, List.set_cons_succ]) | (apply can1; (· rfl); (· rfl); (· (first | (go_simp; with_reducible rfl) | (go_simp; done))); simp only [Act.put, List.setIfInBounds_toArray, List.set_cons_zero, List.set_cons_succ]) | (apply canN; (· rfl); (· rfl); simp only [Act.put, List.setIfInBounds_toArray, List.set_cons_zero, List.set_cons_succ]) | (apply canN1; (· rfl); (· rfl); simp only [Act.put, List.setIfInBounds_toArray, List.set_cons_zero, List.set_cons_succ]) | (apply can0; (· rfl); (· (go_simp; done)); (· (intro w'; first | (go_simp; with_reducible rfl) | (go_simp; done))); simp only [Act.put, List.setIfInBounds_toArray, List.set_cons_zero, List.set_cons_succ]) | (apply can1; (· rfl); (· (go_simp; done)); (· (first | (go_simp; with_reducible rfl) | (go_simp; done))); simp only [Act.put, List.setIfInBounds_toArray, List.set_cons_zero, List.set_cons_succ]) | (apply canN; (· rfl); (· (go_simp; done)); simp only [Act.put, List.setIfInBounds_toArray, List.set_cons_zero, List.set_cons_succ]) | (apply canN1; (· rfl); (· (go_simp; done)); simp only [Act.put, List.setIfInBounds_toArray, List.set_cons_zero, List.set_cons_succ])))
            refine canE ?_
            go_wp2
            go_meet
            exact ⟨HB9, HX9⟩
        case rest =>
          obtain ⟨HV, HX⟩ := hcut
          rename World => w4
          clear ua0 ua1 ua2 ua3 ua4 ua5 ua6 ub0 ub1 ub2 ub3 ub4 ub5 ub6
          have ua0 := HX.out.a.cell 0
          have ua1 := HX.out.a.cell 1
          have ua2 := HX.out.a.cell 2
          have ua3 := HX.out.a.cell 3
          have ua4 := HX.out.a.cell 4
          have ua5 := HX.out.a.cell 5
          have ua6 := HX.out.a.cell 6
          have ub0 := HX.out.b.cell 0
          have ub1 := HX.out.b.cell 1
          have ub2 := HX.out.b.cell 2
          have ub3 := HX.out.b.cell 3
          have ub4 := HX.out.b.cell 4
          have ub5 := HX.out.b.cell 5
          have ub6 := HX.out.b.cell 6
          simp only [List.getElem?_toArray, List.getElem?_cons_zero, List.getElem?_cons_succ] at ua0 ua1 ua2 ua3 ua4 ua5 ua6 ub0 ub1 ub2 ub3 ub4 ub5 ub6
          obtain ⟨L1, hL1⟩ : ∃ L, [0] ++ varsL (hd4 b) = L := ⟨_, rfl⟩
          have hl1 : L1.length ≤ 50 := by rw [← hL1]; simp only [List.length_append, List.length_cons, List.length_nil]; omega
          rw [hL1] at HV HD
          clear hL1
          have hdv := HV.out.1.form
          obtain ⟨adv, cdv, hde, _⟩ := hdv
          rename Value => dv
          subst hde
          go_wp2_with (at_builtin; refine wpList_bxs rfl (.tmp 57) (.tmp 59) rfl _ L1 rfl HV.out b.t rfl (by omega) ?_)
          intro v5 w5 hb5 hc5
          replace HX : Hid (Box2 w w5 ia ib _ _) := Lib.hid ⟨hb5.2.1, HX.out.a.kept hc5 (fun hk => HV.out.1.ne HX.out.a (by decide) hk), HX.out.b.kept hc5 (fun hk => HV.out.1.ne HX.out.b (by decide) hk)⟩
          replace HV := Lib.hid hb5
          clear hb5 hc5
          obtain ⟨L2, hL2⟩ : ∃ L, L1 ++ numsS b.t = L := ⟨_, rfl⟩
          have hl2 : L2.length ≤ 100100 := by rw [← hL2]; simp only [List.length_append, numsS_len]; omega
          rw [hL2] at HV HD
          have hls : (numsS b.t).length = b.t.size := numsS_len b.t
          obtain ⟨av5, cv5, hv5, _⟩ := HV.out.1.form
          subst hv5
          have hLL : L1.length + b.t.size = L2.length := by rw [← hL2, List.length_append, hls]
          clear hL2 hls
          obtain ⟨l, hl⟩ : ∃ l, a.l = l := ⟨_, rfl⟩
          obtain ⟨l', hl'⟩ : ∃ l, b.l = l := ⟨_, rfl⟩
          have HSL := Lib.hid (strL_len l.length 0 l l' (Nat.le_refl _) (by rw [← hl]; omega))
          obtain ⟨T, hT⟩ : ∃ T, L2 ++ strL 0 l l' = T := ⟨_, rfl⟩
          have HTT := Lib.hid hT
          have HTL : Hid (T.length ≤ 100100 + 80 * l'.length) := Lib.hid (by rw [← hT, List.length_append]; have := HSL.out; omega)
          obtain ⟨n, hn⟩ : ∃ n, l'.length = n := ⟨_, rfl⟩
          have HLA : Hid (l.length = n) := Lib.hid (by rw [← hl, HL.out, hl', hn])
          have HLB := Lib.hid hn
          have hln : a.l.length = n := by rw [hl]; exact HLA.out
          have hln' : b.l.length = n := by rw [hl']; exact hn
          rw [hl, hl', hT] at HD
          rw [hl, HLA.out] at HA
          rw [hl', hn] at HB
          rw [hn] at HTL
          rw [hln, hln'] at HX
          rw [hln] at hca
          rw [hln'] at hcb hlb
          clear HSL hT hkl
          have HLE := Lib.hid (And.intro hln hln')
          clear hl hl' hn hln hln' hla
          clear ua0 ua1 ua2 ua3 ua4 ua5 ua6 ub0 ub1 ub2 ub3 ub4 ub5 ub6
          have ub := HX.out.b.cell 2
          have ua := HX.out.a.cell 2
          simp only [List.getElem?_toArray, List.getElem?_cons_zero, List.getElem?_cons_succ] at ua ub
          go_wp2_with fail
          simp only [HLE.out.1, HLE.out.2]
          go_loopw [8, 9, 10] (fun ov lv iv wr => ∃ (i last : Nat) (O : List Int), i ≤ n + 1 ∧ last ≤ i ∧ lv = .int .i64 last ∧ iv = .int .i64 i ∧ Hid (Bx w wr ov O) ∧ Hid (O ++ strL (i - last) (l.drop i) (l'.drop i) = T) ∧ Hid (Box2 w wr ia ib (scA a.r a.c (.slice aa n ca) a.y a.x a.h a.t) (scA b.r b.c (.slice ab n cb) b.y b.x b.h b.t))) (fun _ _ iv _ => n + 1 - (intOf iv).toNat)
          case atStart => exact ⟨0, 0, L2, by omega, Nat.le_refl _, rfl, rfl, HV, Lib.hid HTT.out, HX⟩
          case round =>
            clear HX HV ua ub
            obtain ⟨i, last, O, hi, hlast, rfl, rfl, HO, HE, HX⟩ := hrel
            have hol : O.length ≤ 9000000 := by
              have h1 := congrArg List.length HE.out
              rw [List.length_append] at h1
              have h2 := HTL.out
              omega
            obtain ⟨ao, co, rfl, _⟩ := HO.out.1.form
            have ua := HX.out.a.cell 2
            have ub := HX.out.b.cell 2
            simp only [List.getElem?_toArray, List.getElem?_cons_zero, List.getElem?_cons_succ] at ua ub
            by_cases hin : i < n
            · have hii : (i : Int) < (n : Int) := by omega
              have hi0 : (0 : Int) ≤ (i : Int) := by omega
              obtain ⟨d, hd⟩ : ∃ d, difLen (l.drop i) (l'.drop i) = d := ⟨_, rfl⟩
              have HST := Lib.hid (strL_step (i - last) i d l l' (by rw [HLA.out, HLB.out]) (by rw [HLB.out]; exact hin) hd)
              have hdl : d ≤ n - i := by have := (difLen_le (l.drop i) (l'.drop i)).2; rw [hd] at this; simp only [List.length_drop, HLB.out] at this; omega
              have HNX : Hid (∀ j, j ≤ d → (n = i + j → j = d) ∧ ∀ x y, l[i + j]? = some x → l'[i + j]? = some y → (x ≠ y → j < d) ∧ (x = y → j = d)) := Lib.hid (fun j hj => by
                have h1 := difLen_next (l.drop i) (l'.drop i) j (by simp only [List.length_drop, HLA.out, HLB.out]) (by rw [hd]; exact hj)
                rw [hd] at h1
                refine ⟨fun e => h1.1 (by simp only [List.length_drop, HLA.out]; omega), fun x y hx hy => h1.2 x y (by rw [List.getElem?_drop]; exact hx) (by rw [List.getElem?_drop]; exact hy)⟩)
              clear hd
              rename World => wo
              go_wp2_with fail
              go_loopw [11] (fun ev wx => ∃ j : Nat, j ≤ d ∧ ev = .int .i64 j ∧ Hid (Chg wo wx nob)) (fun ev _ => n + 1 - (intOf ev).toNat)
              case atStart => exact ⟨0, Nat.zero_le _, rfl, Lib.hid (Chg.refl _ _)⟩
              case round =>
                obtain ⟨j, hj, rfl, HW⟩ := hrel
                obtain ⟨hn1, hn2⟩ := HNX.out j hj
                clear ua ub
                have HX2 := Lib.hid (HX.out.kept HW.out)
                obtain ⟨m, hm⟩ : ∃ m, i + j = m := ⟨_, rfl⟩
                rw [hm] at hn1 hn2
                have hwm : IntKind.i64.wrap ((i : Int) + (j : Int)) = (m : Int) := by simp only [IntKind.wrap, IntKind.bits, IntKind.signed]; simp; omega
                have hm0 : (0 : Int) ≤ (m : Int) := by omega
                have HMM := Lib.hid hm
                clear hm
                by_cases hmn : m < n
                · have hmi : (m : Int) < (n : Int) := by omega
                  obtain ⟨cx, hx⟩ : ∃ x, l[m]? = some x := ⟨l[m]'(by rw [HLA.out]; exact hmn), List.getElem?_eq_getElem _⟩
                  obtain ⟨cy, hy⟩ : ∃ x, l'[m]? = some x := ⟨l'[m]'(by rw [HLB.out]; exact hmn), List.getElem?_eq_getElem _⟩
                  obtain ⟨e1, e2⟩ := hn2 cx cy hx hy
                  obtain ⟨q, hq⟩ : ∃ q, eqC cx cy = q := ⟨_, rfl⟩
                  have hra := HA.out.kept HX2.out.chg (fun _ _ => id)
                  have hrb := HB.out.kept HX2.out.chg (fun _ _ => id)
                  rw [← HLA.out] at hra
                  rw [← HLB.out] at hrb
                  have HQ : Hid ((q = false → j < d) ∧ (q = true → j = d)) := Lib.hid ⟨fun h => e1 (eqC_f (hq.trans h)), fun h => e2 (eqC_t (hq.trans h))⟩
                  obtain ⟨ga, oa, rfl, s0, s1, s2, s3, s4⟩ := hra.cell5 hx
                  obtain ⟨gb, ob, rfl, t0, t1, t2, t3, t4⟩ := hrb.cell5 hy
                  obtain ⟨r0, f0, g0, b0, w0⟩ := cx
                  obtain ⟨r1, f1, g1, b1, w1⟩ := cy
                  simp only at s0 s1 s2 s3 s4 t0 t1 t2 t3 t4
                  clear hn1 hn2 hx hy e1 e2 hra hrb
                  have ua := HX2.out.a.cell 2
                  have ub := HX2.out.b.cell 2
                  simp only [List.getElem?_toArray, List.getElem?_cons_zero, List.getElem?_cons_succ] at ua ub
                  go_upto_region 13 with (fail)
                  refine wp_one [4, 9, 14, 16, 21] [] [] [0, 1, 2, 3, 4, 5, 6, 7, 8, 9, 10, 11, 12, 13, 14, 15, 16, 17, 18, 19, 20, 21, 22, 23] rfl (by kernel_rfl) (fun _ _ _ _ _ h => h) ?_; simp only [List.map_cons, List.map_nil, List.getElem?_toArray, List.getElem?_cons_zero, List.getElem?_cons_succ]
                  obtain ⟨wd, hw⟩ : ∃ W, World.drew wr = W := ⟨_, rfl⟩
                  have hck : Chg wr wd nob := by rw [← hw]; exact (Chg.refl wr nob).drew
                  rw [hw]
                  clear hw
                  replace HX2 := Lib.hid (HX2.out.kept hck)
                  replace HW := Lib.hid (HW.out.trans hck (fun _ _ h => h))
                  replace s0 := hck.cell s0 id
                  replace s1 := hck.cell s1 id
                  replace s2 := hck.cell s2 id
                  replace s3 := hck.cell s3 id
                  replace s4 := hck.cell s4 id
                  replace t0 := hck.cell t0 id
                  replace t1 := hck.cell t1 id
                  replace t2 := hck.cell t2 id
                  replace t3 := hck.cell t3 id
                  replace t4 := hck.cell t4 id
                  clear hck ua ub
                  have ua := HX2.out.a.cell 2
                  have ub := HX2.out.b.cell 2
                  simp only [List.getElem?_toArray, List.getElem?_cons_zero, List.getElem?_cons_succ] at ua ub
                  (repeat (first | (apply can0; (· rfl); (· rfl); (· (intro w'; first | (go_simp; with_reducible rfl) | (go_simp; done))); simp only [Act.put, List.setIfInBounds_toArray, List.set_cons_zero, List.set_cons_succ]) | (apply can1; (· rfl); (· rfl); (· (first | (go_simp; with_reducible rfl) | (go_simp; done))); simp only [Act.put, List.setIfInBounds_toArray, List.set_cons_zero, List.set_cons_succ]) | (apply canN; (· rfl); (· rfl); simp only [Act.put, List.setIfInBounds_toArray, List.set_cons_zero, List.set_cons_succ]) | (apply canN1; (· rfl); (· rfl); simp only [Act.put, List.setIfInBounds_toArray, List.set_cons_zero, List.set_cons_succ]) | (apply can0; (· rfl); (· (go_simp; done)); (· (intro w'; first | (go_simp; with_reducible rfl) | (go_simp; done))); simp only [Act.put, List.setIfInBounds_toArray, List.set_cons_zero, List.set_cons_succ]) | (apply can1; (· rfl); (· (go_simp; done)); (· (first | (go_simp; with_reducible rfl) | (go_simp; done))); simp only [Act.put, List.setIfInBounds_toArray, List.set_cons_zero, List.set_cons_succ]) | (apply canN; (· rfl); (· (go_simp; done)); simp only [Act.put, List.setIfInBounds_toArray, List.set_cons_zero, List.set_cons_succ]) | (apply canN1; (· rfl); (· (go_simp; done)); simp only [Act.put, List.setIfInBounds_toArray, List.set_cons_zero, List.set_cons_succ])))
                  refine canE ?_
                  clear s0 s1 s2 s3 s4 t0 t1 t2 t3 t4 ua ub hq
                  cases q with
                  | false =>
                    have hjd := HQ.out.1 rfl
                    clear hwm
                    go_wp2
                    go_roundw
                    case rel => exact ⟨j + 1, by omega, by go_num, HW⟩
                    case measure => simp [intOf]; have := HMM.out; omega
                  | true =>
                    have hjd := HQ.out.2 rfl
                    have HO2 := Lib.hid (HO.out.keptC HW.out)
                    have HEX := Lib.hid (And.intro HMM.out hjd)
                    subst hjd
                    clear HO HW
                    by_cases hd0 : j = 0
                    · obtain rfl : m = i := by have := HEX.out; omega
                      have hj0 : ¬ ((0 : Int) < (j : Int)) := by omega
                      have HR : Hid (O ++ strL (m + 1 - last) (l.drop (m + 1)) (l'.drop (m + 1)) = T) := Lib.hid (by
                        have h := HE.out
                        rw [HST.out.1 hd0] at h
                        rwa [show m + 1 - last = m - last + 1 by omega])
                      clear HEX hd0
                      go_wp2
                      all_goals go_roundw
                      all_goals first
                        | exact ⟨m + 1, last, O, by omega, by omega, rfl, by go_num, HO2, HR, HX2⟩
                        | (simp [intOf]; omega)
                    · have hj0 : (0 : Int) < (j : Int) := by omega
                      have hpos : 0 < j := by omega
                      have hmn' : m ≤ n := by have := HEX.out; omega
                      have hmd : m = i + j := by have := HEX.out; omega
                      have hvi : IntKind.i64.wrap ((i : Int) - (last : Int)) = ((i - last : Nat) : Int) := by simp only [IntKind.wrap, IntKind.bits, IntKind.signed]; simp; omega
                      have hvi2 : IntKind.u64.wrap ((i - last : Nat) : Int) = ((i - last : Nat) : Int) := wraps_u64 _ (by omega) (by omega)
                      have hvd2 : IntKind.u64.wrap (j : Int) = (j : Int) := wraps_u64 _ (by omega) (by omega)
                      have hvs := varsL_len (hd2 (i - last) j) (by intro x hx; simp only [hd2, List.mem_cons, List.not_mem_nil, or_false] at hx; rcases hx with rfl | rfl <;> omega)
                      have HLT : Hid (∀ x ∈ hd2 (i - last) j, x < 18446744073709551616) := Lib.hid (by intro x hx; simp only [hd2, List.mem_cons, List.not_mem_nil, or_false] at hx; rcases hx with rfl | rfl <;> omega)
                      rw [show (hd2 (i - last) j).length = 2 from rfl] at hvs
                      have him : (i : Int) ≤ (m : Int) := by omega
                      have hmc : (m : Int) ≤ (cb : Int) := by omega
                      have hr0 := HST.out.2 hpos
                      rw [← List.append_assoc (varL _), ← hd2_vars] at hr0
                      have HR := Lib.hid hr0
                      have HMD := Lib.hid hmd
                      obtain ⟨P, hP⟩ : ∃ P, (l'.take (i + j)).drop i = P := ⟨_, rfl⟩
                      have hPl : P.length = j := by rw [← hP, List.length_drop, List.length_take, HLB.out]; omega
                      have HP : Hid (Rd w 5 (.slice (addS5 (some ⟨gb, ob, none⟩) cb i) (m - i) (cb - i)) P.length (cellsV P)) := Lib.hid (by
                        have h := HB.out.mid5 (k := i) (m := m) (by omega) (by omega)
                        rw [HMD.out, hP] at h
                        rw [HMD.out, hPl]
                        rwa [show i + j - i = j by omega] at h ⊢)
                      rw [hP] at HR
                      have hrl := runsL_len _ P (Nat.le_refl _)
                      rw [hPl] at hrl
                      have HKC : Hid (∀ w', Chg w w' nob → Calls Tryz.prog 22 #[.slice (addS5 (some ⟨gb, ob, none⟩) cb i) (m - i) (cb - i)] w' fun e w'' => ∃ v, e = .returned v ∧ Bx w' w'' v (runsL P)) := Lib.hid (fun w' hc => rcells_any w' _ P (HP.out.kept hc (fun _ _ => id)) (by omega))
                      obtain ⟨RP, hRP⟩ : ∃ R, runsL P = R := ⟨_, rfl⟩
                      rw [hRP] at HKC HR hrl
                      clear HEX hd0 hmd hr0 hP HP hRP hPl
                      try clear ua ub
                      have ua := HX2.out.a.cell 2
                      have ub := HX2.out.b.cell 2
                      simp only [List.getElem?_toArray, List.getElem?_cons_zero, List.getElem?_cons_succ] at ua ub
                      go_upto_region 16 with (fail)
                      refine wp_one [11] [7, 8, 9, 17, 18] [(7, [11]), (8, [11]), (9, [11])] [0, 1, 2, 3, 4, 5, 6, 10, 11, 12, 13, 14, 15, 16, 7, 8, 9, 17, 18, 19] rfl (by kernel_rfl) (fun _ _ _ _ _ h => h) ?_; simp only [List.map_cons, List.map_nil, List.getElem?_toArray, List.getElem?_cons_zero, List.getElem?_cons_succ]
                      obtain ⟨we, hw⟩ : ∃ W, World.drew wd = W := ⟨_, rfl⟩
                      have hck : Chg wd we nob := by rw [← hw]; exact (Chg.refl wd nob).drew
                      rw [hw]
                      clear hw
                      have HCK : Hid (Chg wd we nob) := Lib.hid hck
                      replace HX2 := Lib.hid (HX2.out.kept hck)
                      have HO3 := Lib.hid (HO2.out.keptC hck)
                      clear hck ua ub HO2
                      have ua := HX2.out.a.cell 2
                      have ub := HX2.out.b.cell 2
                      simp only [List.getElem?_toArray, List.getElem?_cons_zero, List.getElem?_cons_succ] at ua ub
                      (repeat (first | (apply can0; (· rfl); (· rfl); (· (intro w'; first | (go_simp; with_reducible rfl) | (go_simp; done))); simp only [Act.put, List.setIfInBounds_toArray, List.set_cons_zero, List.set_cons_succ]) | (apply can1; (· rfl); (· rfl); (· (first | (go_simp; with_reducible rfl) | (go_simp; done))); simp only [Act.put, List.setIfInBounds_toArray, List.set_cons_zero, List.set_cons_succ]) | (apply canN; (· rfl); (· rfl); simp only [Act.put, List.setIfInBounds_toArray, List.set_cons_zero, List.set_cons_succ]) | (apply canN1; (· rfl); (· rfl); simp only [Act.put, List.setIfInBounds_toArray, List.set_cons_zero, List.set_cons_succ]) | (apply can0; (· rfl); (· (go_simp; done)); (· (intro w'; first | (go_simp; with_reducible rfl) | (go_simp; done))); simp only [Act.put, List.setIfInBounds_toArray, List.set_cons_zero, List.set_cons_succ]) | (apply can1; (· rfl); (· (go_simp; done)); (· (first | (go_simp; with_reducible rfl) | (go_simp; done))); simp only [Act.put, List.setIfInBounds_toArray, List.set_cons_zero, List.set_cons_succ]) | (apply canN; (· rfl); (· (go_simp; done)); simp only [Act.put, List.setIfInBounds_toArray, List.set_cons_zero, List.set_cons_succ]) | (apply canN1; (· rfl); (· (go_simp; done)); simp only [Act.put, List.setIfInBounds_toArray, List.set_cons_zero, List.set_cons_succ])))
                      refine canW rfl [11] rfl (fun K hK => ?_)
                      go_simp
                      obtain ⟨wf, hw⟩ : ∃ W, World.alloc we (.cells #[.int .u64 ((i - last : Nat) : Int), .int .u64 (j : Int)] 41) = W := ⟨_, rfl⟩
                      have hck : Chg we wf nob := by rw [← hw]; exact (Chg.refl we nob).alloc _
                      have HNU : Hid (Rd wf 1 (.slice (some ⟨we.heap.size, 0, none⟩) 2 2) 2 (numsV (hd2 (i - last) j))) := Lib.hid (by rw [← hw, hd2_V]; exact Rd.made we 41 _ (size := 1) (n := 2) (c := 2) rfl (Nat.le_refl _))
                      rw [hw]
                      clear hw
                      replace HX2 := Lib.hid (HX2.out.kept hck)
                      replace HO3 := Lib.hid (HO3.out.keptC hck)
                      clear hck ua ub
                      have ua := HX2.out.a.cell 2
                      have ub := HX2.out.b.cell 2
                      simp only [List.getElem?_toArray, List.getElem?_cons_zero, List.getElem?_cons_succ] at ua ub
                      (refine hK _ _ (fun u hu => by (simp only [List.mem_cons, List.not_mem_nil, or_false] at hu); (first | (subst hu; exact reRun_mk rfl (by first | (go_simp; with_reducible rfl) | (go_simp; done)) (holds_at rfl)) | ((repeat' (first | (rcases hu with rfl | hu) | (subst hu))) <;> exact reRun_mk rfl (by first | (go_simp; with_reducible rfl) | (go_simp; done)) (holds_at rfl)))) ?_; clear hK K; try simp only [Act.put, List.setIfInBounds_toArray, List.set_cons_zero, List.set_cons_succ])
                      (repeat (first | (apply can0; (· rfl); (· rfl); (· (intro w'; first | (go_simp; with_reducible rfl) | (go_simp; done))); simp only [Act.put, List.setIfInBounds_toArray, List.set_cons_zero, List.set_cons_succ]) | (apply can1; (· rfl); (· rfl); (· (first | (go_simp; with_reducible rfl) | (go_simp; done))); simp only [Act.put, List.setIfInBounds_toArray, List.set_cons_zero, List.set_cons_succ]) | (apply canN; (· rfl); (· rfl); simp only [Act.put, List.setIfInBounds_toArray, List.set_cons_zero, List.set_cons_succ]) | (apply canN1; (· rfl); (· rfl); simp only [Act.put, List.setIfInBounds_toArray, List.set_cons_zero, List.set_cons_succ]) | (apply can0; (· rfl); (· (go_simp; done)); (· (intro w'; first | (go_simp; with_reducible rfl) | (go_simp; done))); simp only [Act.put, List.setIfInBounds_toArray, List.set_cons_zero, List.set_cons_succ]) | (apply can1; (· rfl); (· (go_simp; done)); (· (first | (go_simp; with_reducible rfl) | (go_simp; done))); simp only [Act.put, List.setIfInBounds_toArray, List.set_cons_zero, List.set_cons_succ]) | (apply canN; (· rfl); (· (go_simp; done)); simp only [Act.put, List.setIfInBounds_toArray, List.set_cons_zero, List.set_cons_succ]) | (apply canN1; (· rfl); (· (go_simp; done)); simp only [Act.put, List.setIfInBounds_toArray, List.set_cons_zero, List.set_cons_succ])))
                      refine canW rfl [11] rfl (fun K hK => ?_)
                      go_simp
                      go_at_call 20
                      refine (nums_any wf _ (hd2 (i - last) j) HNU.out HLT.out (by (show 2 ≤ 1000); decide)).mono ?_
                      rintro e wg ⟨vn, rfl, hbn⟩
                      have hck := hbn.2.1
                      have HNV := Lib.hid hbn.1
                      replace HX2 := Lib.hid (HX2.out.kept hck)
                      replace HO3 := Lib.hid (HO3.out.keptC hck)
                      clear HNU hbn hck ua ub
                      obtain ⟨an, cn, rfl, _⟩ := HNV.out.form
                      have ua := HX2.out.a.cell 2
                      have ub := HX2.out.b.cell 2
                      simp only [List.getElem?_toArray, List.getElem?_cons_zero, List.getElem?_cons_succ] at ua ub
                      (refine hK _ _ (fun u hu => by (simp only [List.mem_cons, List.not_mem_nil, or_false] at hu); (first | (subst hu; exact reRun_mk rfl (by first | (go_simp; with_reducible rfl) | (go_simp; done)) (holds_at rfl)) | ((repeat' (first | (rcases hu with rfl | hu) | (subst hu))) <;> exact reRun_mk rfl (by first | (go_simp; with_reducible rfl) | (go_simp; done)) (holds_at rfl)))) ?_; clear hK K; try simp only [Act.put, List.setIfInBounds_toArray, List.set_cons_zero, List.set_cons_succ])
                      (repeat (first | (apply can0; (· rfl); (· rfl); (· (intro w'; first | (go_simp; with_reducible rfl) | (go_simp; done))); simp only [Act.put, List.setIfInBounds_toArray, List.set_cons_zero, List.set_cons_succ]) | (apply can1; (· rfl); (· rfl); (· (first | (go_simp; with_reducible rfl) | (go_simp; done))); simp only [Act.put, List.setIfInBounds_toArray, List.set_cons_zero, List.set_cons_succ]) | (apply canN; (· rfl); (· rfl); simp only [Act.put, List.setIfInBounds_toArray, List.set_cons_zero, List.set_cons_succ]) | (apply canN1; (· rfl); (· rfl); simp only [Act.put, List.setIfInBounds_toArray, List.set_cons_zero, List.set_cons_succ]) | (apply can0; (· rfl); (· (go_simp; done)); (· (intro w'; first | (go_simp; with_reducible rfl) | (go_simp; done))); simp only [Act.put, List.setIfInBounds_toArray, List.set_cons_zero, List.set_cons_succ]) | (apply can1; (· rfl); (· (go_simp; done)); (· (first | (go_simp; with_reducible rfl) | (go_simp; done))); simp only [Act.put, List.setIfInBounds_toArray, List.set_cons_zero, List.set_cons_succ]) | (apply canN; (· rfl); (· (go_simp; done)); simp only [Act.put, List.setIfInBounds_toArray, List.set_cons_zero, List.set_cons_succ]) | (apply canN1; (· rfl); (· (go_simp; done)); simp only [Act.put, List.setIfInBounds_toArray, List.set_cons_zero, List.set_cons_succ])))
                      refine canW rfl [11] rfl (fun K hK => ?_)
                      rw [if_pos (by rfl)]
                      refine wp_bx _ _ rfl _ O rfl HO3.out _ (varsL (hd2 (i - last) j)) rfl HNV.out (by omega) ?_
                      intro v9 w9 hb9 hc9
                      replace HX2 : Hid (Box2 w w9 ia ib _ _) := Lib.hid ⟨hb9.2.1, HX2.out.a.kept hc9 (fun hk => HO3.out.1.ne HX2.out.a (by decide) hk), HX2.out.b.kept hc9 (fun hk => HO3.out.1.ne HX2.out.b (by decide) hk)⟩
                      have HO4 := Lib.hid hb9
                      clear hb9 hc9 HO3 HNV ua ub
                      have ua := HX2.out.a.cell 2
                      have ub := HX2.out.b.cell 2
                      simp only [List.getElem?_toArray, List.getElem?_cons_zero, List.getElem?_cons_succ] at ua ub
                      obtain ⟨O5, hO5⟩ : ∃ L, O ++ varsL (hd2 (i - last) j) = L := ⟨_, rfl⟩
                      have hl5 : O5.length ≤ 9000020 := by rw [← hO5, List.length_append]; omega
                      rw [hO5] at HO4
                      have HE5 := Lib.hid hO5
                      clear hO5
                      obtain ⟨a5, c5, rfl, _⟩ := HO4.out.1.form
                      (refine hK _ _ (fun u hu => by (simp only [List.mem_cons, List.not_mem_nil, or_false] at hu); (first | (subst hu; exact reRun_mk rfl (by first | (go_simp; with_reducible rfl) | (go_simp; done)) (holds_at rfl)) | ((repeat' (first | (rcases hu with rfl | hu) | (subst hu))) <;> exact reRun_mk rfl (by first | (go_simp; with_reducible rfl) | (go_simp; done)) (holds_at rfl)))) ?_; clear hK K; try simp only [Act.put, List.setIfInBounds_toArray, List.set_cons_zero, List.set_cons_succ])
                      (repeat (first | (apply can0; (· rfl); (· rfl); (· (intro w'; first | (go_simp; with_reducible rfl) | (go_simp; done))); simp only [Act.put, List.setIfInBounds_toArray, List.set_cons_zero, List.set_cons_succ]) | (apply can1; (· rfl); (· rfl); (· (first | (go_simp; with_reducible rfl) | (go_simp; done))); simp only [Act.put, List.setIfInBounds_toArray, List.set_cons_zero, List.set_cons_succ]) | (apply canN; (· rfl); (· rfl); simp only [Act.put, List.setIfInBounds_toArray, List.set_cons_zero, List.set_cons_succ]) | (apply canN1; (· rfl); (· rfl); simp only [Act.put, List.setIfInBounds_toArray, List.set_cons_zero, List.set_cons_succ]) | (apply can0; (· rfl); (· (go_simp; done)); (· (intro w'; first | (go_simp; with_reducible rfl) | (go_simp; done))); simp only [Act.put, List.setIfInBounds_toArray, List.set_cons_zero, List.set_cons_succ]) | (apply can1; (· rfl); (· (go_simp; done)); (· (first | (go_simp; with_reducible rfl) | (go_simp; done))); simp only [Act.put, List.setIfInBounds_toArray, List.set_cons_zero, List.set_cons_succ]) | (apply canN; (· rfl); (· (go_simp; done)); simp only [Act.put, List.setIfInBounds_toArray, List.set_cons_zero, List.set_cons_succ]) | (apply canN1; (· rfl); (· (go_simp; done)); simp only [Act.put, List.setIfInBounds_toArray, List.set_cons_zero, List.set_cons_succ])))
                      refine canW rfl [] rfl (fun K hK => ?_)
                      go_simp
                      go_at_call 22
                      refine (HKC.out w9 HX2.out.chg).mono ?_
                      rintro e wh ⟨vc, rfl, hbc⟩
                      have hck := hbc.2.1
                      have HCV := Lib.hid hbc.1
                      replace HX2 := Lib.hid (HX2.out.kept hck)
                      replace HO4 := Lib.hid (HO4.out.keptC hck)
                      clear hbc hck ua ub
                      obtain ⟨a6, c6, rfl, _⟩ := HCV.out.form
                      (refine hK _ _ (fun u hu => by cases hu) ?_; clear hK K; try simp only [Act.put, List.setIfInBounds_toArray, List.set_cons_zero, List.set_cons_succ])
                      (repeat (first | (apply can0; (· rfl); (· rfl); (· (intro w'; first | (go_simp; with_reducible rfl) | (go_simp; done))); simp only [Act.put, List.setIfInBounds_toArray, List.set_cons_zero, List.set_cons_succ]) | (apply can1; (· rfl); (· rfl); (· (first | (go_simp; with_reducible rfl) | (go_simp; done))); simp only [Act.put, List.setIfInBounds_toArray, List.set_cons_zero, List.set_cons_succ]) | (apply canN; (· rfl); (· rfl); simp only [Act.put, List.setIfInBounds_toArray, List.set_cons_zero, List.set_cons_succ]) | (apply canN1; (· rfl); (· rfl); simp only [Act.put, List.setIfInBounds_toArray, List.set_cons_zero, List.set_cons_succ]) | (apply can0; (· rfl); (· (go_simp; done)); (· (intro w'; first | (go_simp; with_reducible rfl) | (go_simp; done))); simp only [Act.put, List.setIfInBounds_toArray, List.set_cons_zero, List.set_cons_succ]) | (apply can1; (· rfl); (· (go_simp; done)); (· (first | (go_simp; with_reducible rfl) | (go_simp; done))); simp only [Act.put, List.setIfInBounds_toArray, List.set_cons_zero, List.set_cons_succ]) | (apply canN; (· rfl); (· (go_simp; done)); simp only [Act.put, List.setIfInBounds_toArray, List.set_cons_zero, List.set_cons_succ]) | (apply canN1; (· rfl); (· (go_simp; done)); simp only [Act.put, List.setIfInBounds_toArray, List.set_cons_zero, List.set_cons_succ])))
                      refine canW rfl [] rfl (fun K hK => ?_)
                      rw [if_pos (by rfl)]
                      refine wp_bx _ _ rfl _ O5 rfl HO4.out _ RP rfl HCV.out (by omega) ?_
                      intro v10 w10 hb10 hc10
                      replace HX2 : Hid (Box2 w w10 ia ib _ _) := Lib.hid ⟨hb10.2.1, HX2.out.a.kept hc10 (fun hk => HO4.out.1.ne HX2.out.a (by decide) hk), HX2.out.b.kept hc10 (fun hk => HO4.out.1.ne HX2.out.b (by decide) hk)⟩
                      have HO8 := Lib.hid hb10
                      clear hb10 hc10 HO4 HCV
                      obtain ⟨a8, c8, rfl, _⟩ := HO8.out.1.form
                      (refine hK _ _ (fun u hu => by cases hu) ?_; clear hK K; try simp only [Act.put, List.setIfInBounds_toArray, List.set_cons_zero, List.set_cons_succ])
                      (repeat (first | (apply can0; (· rfl); (· rfl); (· (intro w'; first | (go_simp; with_reducible rfl) | (go_simp; done))); simp only [Act.put, List.setIfInBounds_toArray, List.set_cons_zero, List.set_cons_succ]) | (apply can1; (· rfl); (· rfl); (· (first | (go_simp; with_reducible rfl) | (go_simp; done))); simp only [Act.put, List.setIfInBounds_toArray, List.set_cons_zero, List.set_cons_succ]) | (apply canN; (· rfl); (· rfl); simp only [Act.put, List.setIfInBounds_toArray, List.set_cons_zero, List.set_cons_succ]) | (apply canN1; (· rfl); (· rfl); simp only [Act.put, List.setIfInBounds_toArray, List.set_cons_zero, List.set_cons_succ]) | (apply can0; (· rfl); (· (go_simp; done)); (· (intro w'; first | (go_simp; with_reducible rfl) | (go_simp; done))); simp only [Act.put, List.setIfInBounds_toArray, List.set_cons_zero, List.set_cons_succ]) | (apply can1; (· rfl); (· (go_simp; done)); (· (first | (go_simp; with_reducible rfl) | (go_simp; done))); simp only [Act.put, List.setIfInBounds_toArray, List.set_cons_zero, List.set_cons_succ]) | (apply canN; (· rfl); (· (go_simp; done)); simp only [Act.put, List.setIfInBounds_toArray, List.set_cons_zero, List.set_cons_succ]) | (apply canN1; (· rfl); (· (go_simp; done)); simp only [Act.put, List.setIfInBounds_toArray, List.set_cons_zero, List.set_cons_succ])))
                      refine canE ?_
                      have HR8 : Hid ((O5 ++ RP) ++ strL (m + 1 - m) (l.drop (m + 1)) (l'.drop (m + 1)) = T) := Lib.hid (by
                        have h := HE.out
                        rw [HR.out] at h
                        rw [← h, ← HE5.out, HMD.out, show i + j + 1 - (i + j) = 1 by omega]
                        simp only [List.append_assoc])
                      clear HR
                      go_wp2
                      go_roundw
                      case rel => exact ⟨m + 1, m, O5 ++ RP, by omega, by omega, rfl, by go_num, Lib.hid (by have h := HO8.out; rwa [List.length_append] at h), HR8, HX2⟩
                      case measure => simp [intOf]; omega
                · have HJD : Hid (j = d) := Lib.hid (hn1 (by have := HMM.out; omega))
                  have hmi : ¬ ((m : Int) < (n : Int)) := by omega
                  have hmf : ((m : Int) < (n : Int)) = False := eq_false hmi
                  have hmf2 : (m < n) = False := eq_false hmn
                  clear hn1 hn2
                  have ua := HX2.out.a.cell 2
                  have ub := HX2.out.b.cell 2
                  simp only [List.getElem?_toArray, List.getElem?_cons_zero, List.getElem?_cons_succ] at ua ub
                  go_upto_region 13 with (fail)
                  refine wp_one [4, 9, 14, 16, 21] [] [] [0, 1, 2, 3, 4, 5, 6, 7, 8, 9, 10, 11, 12, 13, 14, 15, 16, 17, 18, 19, 20, 21, 22, 23] rfl (by kernel_rfl) (fun _ _ _ _ _ h => h) ?_; simp only [List.map_cons, List.map_nil, List.getElem?_toArray, List.getElem?_cons_zero, List.getElem?_cons_succ]
                  obtain ⟨wd, hw⟩ : ∃ W, World.drew wr = W := ⟨_, rfl⟩
                  have hck : Chg wr wd nob := by rw [← hw]; exact (Chg.refl wr nob).drew
                  rw [hw]
                  clear hw
                  replace HX2 := Lib.hid (HX2.out.kept hck)
                  replace HW := Lib.hid (HW.out.trans hck (fun _ _ h => h))
                  clear hck ua ub
                  have ua := HX2.out.a.cell 2
                  have ub := HX2.out.b.cell 2
                  simp only [List.getElem?_toArray, List.getElem?_cons_zero, List.getElem?_cons_succ] at ua ub
                  (repeat (first | (apply can0; (· rfl); (· rfl); (· (intro w'; first | (go_simp; with_reducible rfl) | (go_simp; done))); simp only [Act.put, List.setIfInBounds_toArray, List.set_cons_zero, List.set_cons_succ]) | (apply can1; (· rfl); (· rfl); (· (first | (go_simp; with_reducible rfl) | (go_simp; done))); simp only [Act.put, List.setIfInBounds_toArray, List.set_cons_zero, List.set_cons_succ]) | (apply canN; (· rfl); (· rfl); simp only [Act.put, List.setIfInBounds_toArray, List.set_cons_zero, List.set_cons_succ]) | (apply canN1; (· rfl); (· rfl); simp only [Act.put, List.setIfInBounds_toArray, List.set_cons_zero, List.set_cons_succ]) | (apply can0; (· rfl); (· (go_simp; done)); (· (intro w'; first | (go_simp; with_reducible rfl) | (go_simp; done))); simp only [Act.put, List.setIfInBounds_toArray, List.set_cons_zero, List.set_cons_succ]) | (apply can1; (· rfl); (· (go_simp; done)); (· (first | (go_simp; with_reducible rfl) | (go_simp; done))); simp only [Act.put, List.setIfInBounds_toArray, List.set_cons_zero, List.set_cons_succ]) | (apply canN; (· rfl); (· (go_simp; done)); simp only [Act.put, List.setIfInBounds_toArray, List.set_cons_zero, List.set_cons_succ]) | (apply canN1; (· rfl); (· (go_simp; done)); simp only [Act.put, List.setIfInBounds_toArray, List.set_cons_zero, List.set_cons_succ])))
                  refine canE ?_
                  clear ua ub
                  have hjd := HJD.out
                  have HO2 := Lib.hid (HO.out.keptC HW.out)
                  have HEX := Lib.hid (And.intro HMM.out hjd)
                  subst hjd
                  clear HO HW
                  by_cases hd0 : j = 0
                  · obtain rfl : m = i := by have := HEX.out; omega
                    have hj0 : ¬ ((0 : Int) < (j : Int)) := by omega
                    have HR : Hid (O ++ strL (m + 1 - last) (l.drop (m + 1)) (l'.drop (m + 1)) = T) := Lib.hid (by
                      have h := HE.out
                      rw [HST.out.1 hd0] at h
                      rwa [show m + 1 - last = m - last + 1 by omega])
                    clear HEX hd0
                    go_wp2
                    all_goals go_roundw
                    all_goals first
                      | exact ⟨m + 1, last, O, by omega, by omega, rfl, by go_num, HO2, HR, HX2⟩
                      | (simp [intOf]; omega)
                  · have hj0 : (0 : Int) < (j : Int) := by omega
                    have hpos : 0 < j := by omega
                    have hmn' : m ≤ n := by have := HEX.out; omega
                    have hmd : m = i + j := by have := HEX.out; omega
                    have hvi : IntKind.i64.wrap ((i : Int) - (last : Int)) = ((i - last : Nat) : Int) := by simp only [IntKind.wrap, IntKind.bits, IntKind.signed]; simp; omega
                    have hvi2 : IntKind.u64.wrap ((i - last : Nat) : Int) = ((i - last : Nat) : Int) := wraps_u64 _ (by omega) (by omega)
                    have hvd2 : IntKind.u64.wrap (j : Int) = (j : Int) := wraps_u64 _ (by omega) (by omega)
                    have hvs := varsL_len (hd2 (i - last) j) (by intro x hx; simp only [hd2, List.mem_cons, List.not_mem_nil, or_false] at hx; rcases hx with rfl | rfl <;> omega)
                    have HLT : Hid (∀ x ∈ hd2 (i - last) j, x < 18446744073709551616) := Lib.hid (by intro x hx; simp only [hd2, List.mem_cons, List.not_mem_nil, or_false] at hx; rcases hx with rfl | rfl <;> omega)
                    rw [show (hd2 (i - last) j).length = 2 from rfl] at hvs
                    have him : (i : Int) ≤ (m : Int) := by omega
                    have hmc : (m : Int) ≤ (cb : Int) := by omega
                    have hr0 := HST.out.2 hpos
                    rw [← List.append_assoc (varL _), ← hd2_vars] at hr0
                    have HR := Lib.hid hr0
                    have HMD := Lib.hid hmd
                    obtain ⟨P, hP⟩ : ∃ P, (l'.take (i + j)).drop i = P := ⟨_, rfl⟩
                    have hPl : P.length = j := by rw [← hP, List.length_drop, List.length_take, HLB.out]; omega
                    have HP : Hid (Rd w 5 (.slice (addS5 (ab) cb i) (m - i) (cb - i)) P.length (cellsV P)) := Lib.hid (by
                      have h := HB.out.mid5 (k := i) (m := m) (by omega) (by omega)
                      rw [HMD.out, hP] at h
                      rw [HMD.out, hPl]
                      rwa [show i + j - i = j by omega] at h ⊢)
                    rw [hP] at HR
                    have hrl := runsL_len _ P (Nat.le_refl _)
                    rw [hPl] at hrl
                    have HKC : Hid (∀ w', Chg w w' nob → Calls Tryz.prog 22 #[.slice (addS5 (ab) cb i) (m - i) (cb - i)] w' fun e w'' => ∃ v, e = .returned v ∧ Bx w' w'' v (runsL P)) := Lib.hid (fun w' hc => rcells_any w' _ P (HP.out.kept hc (fun _ _ => id)) (by omega))
                    obtain ⟨RP, hRP⟩ : ∃ R, runsL P = R := ⟨_, rfl⟩
                    rw [hRP] at HKC HR hrl
                    clear HEX hd0 hmd hr0 hP HP hRP hPl
                    try clear ua ub
                    have ua := HX2.out.a.cell 2
                    have ub := HX2.out.b.cell 2
                    simp only [List.getElem?_toArray, List.getElem?_cons_zero, List.getElem?_cons_succ] at ua ub
                    go_upto_region 16 with (fail)
                    refine wp_one [11] [7, 8, 9, 17, 18] [(7, [11]), (8, [11]), (9, [11])] [0, 1, 2, 3, 4, 5, 6, 10, 11, 12, 13, 14, 15, 16, 7, 8, 9, 17, 18, 19] rfl (by kernel_rfl) (fun _ _ _ _ _ h => h) ?_; simp only [List.map_cons, List.map_nil, List.getElem?_toArray, List.getElem?_cons_zero, List.getElem?_cons_succ]
                    obtain ⟨we, hw⟩ : ∃ W, World.drew wd = W := ⟨_, rfl⟩
                    have hck : Chg wd we nob := by rw [← hw]; exact (Chg.refl wd nob).drew
                    rw [hw]
                    clear hw
                    have HCK : Hid (Chg wd we nob) := Lib.hid hck
                    replace HX2 := Lib.hid (HX2.out.kept hck)
                    have HO3 := Lib.hid (HO2.out.keptC hck)
                    clear hck ua ub HO2
                    have ua := HX2.out.a.cell 2
                    have ub := HX2.out.b.cell 2
                    simp only [List.getElem?_toArray, List.getElem?_cons_zero, List.getElem?_cons_succ] at ua ub
                    (repeat (first | (apply can0; (· rfl); (· rfl); (· (intro w'; first | (go_simp; with_reducible rfl) | (go_simp; done))); simp only [Act.put, List.setIfInBounds_toArray, List.set_cons_zero, List.set_cons_succ]) | (apply can1; (· rfl); (· rfl); (· (first | (go_simp; with_reducible rfl) | (go_simp; done))); simp only [Act.put, List.setIfInBounds_toArray, List.set_cons_zero, List.set_cons_succ]) | (apply canN; (· rfl); (· rfl); simp only [Act.put, List.setIfInBounds_toArray, List.set_cons_zero, List.set_cons_succ]) | (apply canN1; (· rfl); (· rfl); simp only [Act.put, List.setIfInBounds_toArray, List.set_cons_zero, List.set_cons_succ]) | (apply can0; (· rfl); (· (go_simp; done)); (· (intro w'; first | (go_simp; with_reducible rfl) | (go_simp; done))); simp only [Act.put, List.setIfInBounds_toArray, List.set_cons_zero, List.set_cons_succ]) | (apply can1; (· rfl); (· (go_simp; done)); (· (first | (go_simp; with_reducible rfl) | (go_simp; done))); simp only [Act.put, List.setIfInBounds_toArray, List.set_cons_zero, List.set_cons_succ]) | (apply canN; (· rfl); (· (go_simp; done)); simp only [Act.put, List.setIfInBounds_toArray, List.set_cons_zero, List.set_cons_succ]) | (apply canN1; (· rfl); (· (go_simp; done)); simp only [Act.put, List.setIfInBounds_toArray, List.set_cons_zero, List.set_cons_succ])))
                    refine canW rfl [11] rfl (fun K hK => ?_)
                    go_simp
                    obtain ⟨wf, hw⟩ : ∃ W, World.alloc we (.cells #[.int .u64 ((i - last : Nat) : Int), .int .u64 (j : Int)] 41) = W := ⟨_, rfl⟩
                    have hck : Chg we wf nob := by rw [← hw]; exact (Chg.refl we nob).alloc _
                    have HNU : Hid (Rd wf 1 (.slice (some ⟨we.heap.size, 0, none⟩) 2 2) 2 (numsV (hd2 (i - last) j))) := Lib.hid (by rw [← hw, hd2_V]; exact Rd.made we 41 _ (size := 1) (n := 2) (c := 2) rfl (Nat.le_refl _))
                    rw [hw]
                    clear hw
                    replace HX2 := Lib.hid (HX2.out.kept hck)
                    replace HO3 := Lib.hid (HO3.out.keptC hck)
                    clear hck ua ub
                    have ua := HX2.out.a.cell 2
                    have ub := HX2.out.b.cell 2
                    simp only [List.getElem?_toArray, List.getElem?_cons_zero, List.getElem?_cons_succ] at ua ub
                    (refine hK _ _ (fun u hu => by (simp only [List.mem_cons, List.not_mem_nil, or_false] at hu); (first | (subst hu; exact reRun_mk rfl (by first | (go_simp; with_reducible rfl) | (go_simp; done)) (holds_at rfl)) | ((repeat' (first | (rcases hu with rfl | hu) | (subst hu))) <;> exact reRun_mk rfl (by first | (go_simp; with_reducible rfl) | (go_simp; done)) (holds_at rfl)))) ?_; clear hK K; try simp only [Act.put, List.setIfInBounds_toArray, List.set_cons_zero, List.set_cons_succ])
                    (repeat (first | (apply can0; (· rfl); (· rfl); (· (intro w'; first | (go_simp; with_reducible rfl) | (go_simp; done))); simp only [Act.put, List.setIfInBounds_toArray, List.set_cons_zero, List.set_cons_succ]) | (apply can1; (· rfl); (· rfl); (· (first | (go_simp; with_reducible rfl) | (go_simp; done))); simp only [Act.put, List.setIfInBounds_toArray, List.set_cons_zero, List.set_cons_succ]) | (apply canN; (· rfl); (· rfl); simp only [Act.put, List.setIfInBounds_toArray, List.set_cons_zero, List.set_cons_succ]) | (apply canN1; (· rfl); (· rfl); simp only [Act.put, List.setIfInBounds_toArray, List.set_cons_zero, List.set_cons_succ]) | (apply can0; (· rfl); (· (go_simp; done)); (· (intro w'; first | (go_simp; with_reducible rfl) | (go_simp; done))); simp only [Act.put, List.setIfInBounds_toArray, List.set_cons_zero, List.set_cons_succ]) | (apply can1; (· rfl); (· (go_simp; done)); (· (first | (go_simp; with_reducible rfl) | (go_simp; done))); simp only [Act.put, List.setIfInBounds_toArray, List.set_cons_zero, List.set_cons_succ]) | (apply canN; (· rfl); (· (go_simp; done)); simp only [Act.put, List.setIfInBounds_toArray, List.set_cons_zero, List.set_cons_succ]) | (apply canN1; (· rfl); (· (go_simp; done)); simp only [Act.put, List.setIfInBounds_toArray, List.set_cons_zero, List.set_cons_succ])))
                    refine canW rfl [11] rfl (fun K hK => ?_)
                    go_simp
                    go_at_call 20
                    refine (nums_any wf _ (hd2 (i - last) j) HNU.out HLT.out (by (show 2 ≤ 1000); decide)).mono ?_
                    rintro e wg ⟨vn, rfl, hbn⟩
                    have hck := hbn.2.1
                    have HNV := Lib.hid hbn.1
                    replace HX2 := Lib.hid (HX2.out.kept hck)
                    replace HO3 := Lib.hid (HO3.out.keptC hck)
                    clear HNU hbn hck ua ub
                    obtain ⟨an, cn, rfl, _⟩ := HNV.out.form
                    have ua := HX2.out.a.cell 2
                    have ub := HX2.out.b.cell 2
                    simp only [List.getElem?_toArray, List.getElem?_cons_zero, List.getElem?_cons_succ] at ua ub
                    (refine hK _ _ (fun u hu => by (simp only [List.mem_cons, List.not_mem_nil, or_false] at hu); (first | (subst hu; exact reRun_mk rfl (by first | (go_simp; with_reducible rfl) | (go_simp; done)) (holds_at rfl)) | ((repeat' (first | (rcases hu with rfl | hu) | (subst hu))) <;> exact reRun_mk rfl (by first | (go_simp; with_reducible rfl) | (go_simp; done)) (holds_at rfl)))) ?_; clear hK K; try simp only [Act.put, List.setIfInBounds_toArray, List.set_cons_zero, List.set_cons_succ])
                    (repeat (first | (apply can0; (· rfl); (· rfl); (· (intro w'; first | (go_simp; with_reducible rfl) | (go_simp; done))); simp only [Act.put, List.setIfInBounds_toArray, List.set_cons_zero, List.set_cons_succ]) | (apply can1; (· rfl); (· rfl); (· (first | (go_simp; with_reducible rfl) | (go_simp; done))); simp only [Act.put, List.setIfInBounds_toArray, List.set_cons_zero, List.set_cons_succ]) | (apply canN; (· rfl); (· rfl); simp only [Act.put, List.setIfInBounds_toArray, List.set_cons_zero, List.set_cons_succ]) | (apply canN1; (· rfl); (· rfl); simp only [Act.put, List.setIfInBounds_toArray, List.set_cons_zero, List.set_cons_succ]) | (apply can0; (· rfl); (· (go_simp; done)); (· (intro w'; first | (go_simp; with_reducible rfl) | (go_simp; done))); simp only [Act.put, List.setIfInBounds_toArray, List.set_cons_zero, List.set_cons_succ]) | (apply can1; (· rfl); (· (go_simp; done)); (· (first | (go_simp; with_reducible rfl) | (go_simp; done))); simp only [Act.put, List.setIfInBounds_toArray, List.set_cons_zero, List.set_cons_succ]) | (apply canN; (· rfl); (· (go_simp; done)); simp only [Act.put, List.setIfInBounds_toArray, List.set_cons_zero, List.set_cons_succ]) | (apply canN1; (· rfl); (· (go_simp; done)); simp only [Act.put, List.setIfInBounds_toArray, List.set_cons_zero, List.set_cons_succ])))
                    refine canW rfl [11] rfl (fun K hK => ?_)
                    rw [if_pos (by rfl)]
                    refine wp_bx _ _ rfl _ O rfl HO3.out _ (varsL (hd2 (i - last) j)) rfl HNV.out (by omega) ?_
                    intro v9 w9 hb9 hc9
                    replace HX2 : Hid (Box2 w w9 ia ib _ _) := Lib.hid ⟨hb9.2.1, HX2.out.a.kept hc9 (fun hk => HO3.out.1.ne HX2.out.a (by decide) hk), HX2.out.b.kept hc9 (fun hk => HO3.out.1.ne HX2.out.b (by decide) hk)⟩
                    have HO4 := Lib.hid hb9
                    clear hb9 hc9 HO3 HNV ua ub
                    have ua := HX2.out.a.cell 2
                    have ub := HX2.out.b.cell 2
                    simp only [List.getElem?_toArray, List.getElem?_cons_zero, List.getElem?_cons_succ] at ua ub
                    obtain ⟨O5, hO5⟩ : ∃ L, O ++ varsL (hd2 (i - last) j) = L := ⟨_, rfl⟩
                    have hl5 : O5.length ≤ 9000020 := by rw [← hO5, List.length_append]; omega
                    rw [hO5] at HO4
                    have HE5 := Lib.hid hO5
                    clear hO5
                    obtain ⟨a5, c5, rfl, _⟩ := HO4.out.1.form
                    (refine hK _ _ (fun u hu => by (simp only [List.mem_cons, List.not_mem_nil, or_false] at hu); (first | (subst hu; exact reRun_mk rfl (by first | (go_simp; with_reducible rfl) | (go_simp; done)) (holds_at rfl)) | ((repeat' (first | (rcases hu with rfl | hu) | (subst hu))) <;> exact reRun_mk rfl (by first | (go_simp; with_reducible rfl) | (go_simp; done)) (holds_at rfl)))) ?_; clear hK K; try simp only [Act.put, List.setIfInBounds_toArray, List.set_cons_zero, List.set_cons_succ])
                    (repeat (first | (apply can0; (· rfl); (· rfl); (· (intro w'; first | (go_simp; with_reducible rfl) | (go_simp; done))); simp only [Act.put, List.setIfInBounds_toArray, List.set_cons_zero, List.set_cons_succ]) | (apply can1; (· rfl); (· rfl); (· (first | (go_simp; with_reducible rfl) | (go_simp; done))); simp only [Act.put, List.setIfInBounds_toArray, List.set_cons_zero, List.set_cons_succ]) | (apply canN; (· rfl); (· rfl); simp only [Act.put, List.setIfInBounds_toArray, List.set_cons_zero, List.set_cons_succ]) | (apply canN1; (· rfl); (· rfl); simp only [Act.put, List.setIfInBounds_toArray, List.set_cons_zero, List.set_cons_succ]) | (apply can0; (· rfl); (· (go_simp; done)); (· (intro w'; first | (go_simp; with_reducible rfl) | (go_simp; done))); simp only [Act.put, List.setIfInBounds_toArray, List.set_cons_zero, List.set_cons_succ]) | (apply can1; (· rfl); (· (go_simp; done)); (· (first | (go_simp; with_reducible rfl) | (go_simp; done))); simp only [Act.put, List.setIfInBounds_toArray, List.set_cons_zero, List.set_cons_succ]) | (apply canN; (· rfl); (· (go_simp; done)); simp only [Act.put, List.setIfInBounds_toArray, List.set_cons_zero, List.set_cons_succ]) | (apply canN1; (· rfl); (· (go_simp; done)); simp only [Act.put, List.setIfInBounds_toArray, List.set_cons_zero, List.set_cons_succ])))
                    refine canW rfl [] rfl (fun K hK => ?_)
                    go_simp
                    go_at_call 22
                    refine (HKC.out w9 HX2.out.chg).mono ?_
                    rintro e wh ⟨vc, rfl, hbc⟩
                    have hck := hbc.2.1
                    have HCV := Lib.hid hbc.1
                    replace HX2 := Lib.hid (HX2.out.kept hck)
                    replace HO4 := Lib.hid (HO4.out.keptC hck)
                    clear hbc hck ua ub
                    obtain ⟨a6, c6, rfl, _⟩ := HCV.out.form
                    (refine hK _ _ (fun u hu => by cases hu) ?_; clear hK K; try simp only [Act.put, List.setIfInBounds_toArray, List.set_cons_zero, List.set_cons_succ])
                    (repeat (first | (apply can0; (· rfl); (· rfl); (· (intro w'; first | (go_simp; with_reducible rfl) | (go_simp; done))); simp only [Act.put, List.setIfInBounds_toArray, List.set_cons_zero, List.set_cons_succ]) | (apply can1; (· rfl); (· rfl); (· (first | (go_simp; with_reducible rfl) | (go_simp; done))); simp only [Act.put, List.setIfInBounds_toArray, List.set_cons_zero, List.set_cons_succ]) | (apply canN; (· rfl); (· rfl); simp only [Act.put, List.setIfInBounds_toArray, List.set_cons_zero, List.set_cons_succ]) | (apply canN1; (· rfl); (· rfl); simp only [Act.put, List.setIfInBounds_toArray, List.set_cons_zero, List.set_cons_succ]) | (apply can0; (· rfl); (· (go_simp; done)); (· (intro w'; first | (go_simp; with_reducible rfl) | (go_simp; done))); simp only [Act.put, List.setIfInBounds_toArray, List.set_cons_zero, List.set_cons_succ]) | (apply can1; (· rfl); (· (go_simp; done)); (· (first | (go_simp; with_reducible rfl) | (go_simp; done))); simp only [Act.put, List.setIfInBounds_toArray, List.set_cons_zero, List.set_cons_succ]) | (apply canN; (· rfl); (· (go_simp; done)); simp only [Act.put, List.setIfInBounds_toArray, List.set_cons_zero, List.set_cons_succ]) | (apply canN1; (· rfl); (· (go_simp; done)); simp only [Act.put, List.setIfInBounds_toArray, List.set_cons_zero, List.set_cons_succ])))
                    refine canW rfl [] rfl (fun K hK => ?_)
                    rw [if_pos (by rfl)]
                    refine wp_bx _ _ rfl _ O5 rfl HO4.out _ RP rfl HCV.out (by omega) ?_
                    intro v10 w10 hb10 hc10
                    replace HX2 : Hid (Box2 w w10 ia ib _ _) := Lib.hid ⟨hb10.2.1, HX2.out.a.kept hc10 (fun hk => HO4.out.1.ne HX2.out.a (by decide) hk), HX2.out.b.kept hc10 (fun hk => HO4.out.1.ne HX2.out.b (by decide) hk)⟩
                    have HO8 := Lib.hid hb10
                    clear hb10 hc10 HO4 HCV
                    obtain ⟨a8, c8, rfl, _⟩ := HO8.out.1.form
                    (refine hK _ _ (fun u hu => by cases hu) ?_; clear hK K; try simp only [Act.put, List.setIfInBounds_toArray, List.set_cons_zero, List.set_cons_succ])
                    (repeat (first | (apply can0; (· rfl); (· rfl); (· (intro w'; first | (go_simp; with_reducible rfl) | (go_simp; done))); simp only [Act.put, List.setIfInBounds_toArray, List.set_cons_zero, List.set_cons_succ]) | (apply can1; (· rfl); (· rfl); (· (first | (go_simp; with_reducible rfl) | (go_simp; done))); simp only [Act.put, List.setIfInBounds_toArray, List.set_cons_zero, List.set_cons_succ]) | (apply canN; (· rfl); (· rfl); simp only [Act.put, List.setIfInBounds_toArray, List.set_cons_zero, List.set_cons_succ]) | (apply canN1; (· rfl); (· rfl); simp only [Act.put, List.setIfInBounds_toArray, List.set_cons_zero, List.set_cons_succ]) | (apply can0; (· rfl); (· (go_simp; done)); (· (intro w'; first | (go_simp; with_reducible rfl) | (go_simp; done))); simp only [Act.put, List.setIfInBounds_toArray, List.set_cons_zero, List.set_cons_succ]) | (apply can1; (· rfl); (· (go_simp; done)); (· (first | (go_simp; with_reducible rfl) | (go_simp; done))); simp only [Act.put, List.setIfInBounds_toArray, List.set_cons_zero, List.set_cons_succ]) | (apply canN; (· rfl); (· (go_simp; done)); simp only [Act.put, List.setIfInBounds_toArray, List.set_cons_zero, List.set_cons_succ]) | (apply canN1; (· rfl); (· (go_simp; done)); simp only [Act.put, List.setIfInBounds_toArray, List.set_cons_zero, List.set_cons_succ])))
                    refine canE ?_
                    have HR8 : Hid ((O5 ++ RP) ++ strL (m + 1 - m) (l.drop (m + 1)) (l'.drop (m + 1)) = T) := Lib.hid (by
                      have h := HE.out
                      rw [HR.out] at h
                      rw [← h, ← HE5.out, HMD.out, show i + j + 1 - (i + j) = 1 by omega]
                      simp only [List.append_assoc])
                    clear HR
                    go_wp2
                    go_roundw
                    case rel => exact ⟨m + 1, m, O5 ++ RP, by omega, by omega, rfl, by go_num, Lib.hid (by have h := HO8.out; rwa [List.length_append] at h), HR8, HX2⟩
                    case measure => simp [intOf]; omega
            · have hii : ¬ ((i : Int) < (n : Int)) := by omega
              have HTF : Hid (O = T) := Lib.hid (by
                have h := HE.out
                rw [List.drop_eq_nil_of_le (by rw [HLA.out]; omega), List.drop_eq_nil_of_le (by rw [HLB.out]; omega), strL_nil, List.append_nil] at h
                exact h)
              go_wp2
              go_ret2
              exact ⟨_, rfl, by rw [HD.out, ← HTF.out]; exact HO.out⟩
end Go.Proofs.YtmbdpcamhkdkmaaGreatDoor
