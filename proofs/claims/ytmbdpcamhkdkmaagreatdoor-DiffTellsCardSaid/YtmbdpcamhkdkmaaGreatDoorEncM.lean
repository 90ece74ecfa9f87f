/-
  A screen as bytes: key.Encode, and the document's.
-/
import Derived.Test.YtmbdpcamhkdkmaaGreatDoorMg15
import Derived.Test.YtmbdpcamhkdkmaaGreatDoorRS3M
namespace Go.Proofs.YtmbdpcamhkdkmaaGreatDoor
open Go.RowKit
set_option linter.unusedVariables false
set_option linter.unusedSimpArgs false

def bitN (b : Bool) : Nat := if b then 1 else 0
def headN (r c y x : Int) (h : Bool) (t : ByteArray) : List Nat := [u64N r, u64N c, u64N y, u64N x, bitN h, u64N t.size]
/-- A screen's text. -/
def keyL (r c : Int) (l : List Ce) (y x : Int) (h : Bool) (t : ByteArray) : List Int := varsL (headN r c y x h t) ++ numsS t ++ runsL l
theorem headN_lt (r c y x : Int) (h : Bool) (t : ByteArray) : ∀ n ∈ headN r c y x h t, n < 18446744073709551616 := by
  intro n hn
  simp only [headN, List.mem_cons, List.not_mem_nil, or_false] at hn
  rcases hn with rfl | rfl | rfl | rfl | rfl | rfl
  · exact u64N_lt _
  · exact u64N_lt _
  · exact u64N_lt _
  · exact u64N_lt _
  · unfold bitN; split <;> omega
  · exact u64N_lt _
set_option maxRecDepth 100000 in
theorem headN_V (r c y x : Int) (h : Bool) (t : ByteArray) (ht : t.size ≤ 1000000) : numsV (headN r c y x h t) = [.int .u64 (IntKind.u64.wrap r), .int .u64 (IntKind.u64.wrap c), .int .u64 (IntKind.u64.wrap y), .int .u64 (IntKind.u64.wrap x), .int .u64 (bitN h), .int .u64 (IntKind.u64.wrap t.size)] := by
  simp only [numsV, headN, List.map_cons, List.map_nil, u64N_int]
set_option maxRecDepth 100000 in
theorem bit_any (w : World) (b : Bool) : Calls Tryz.prog 42 #[.bool b] w fun e w' => e = .returned (.int .u64 (bitN b)) ∧ w' = w := by
  cases b
  all_goals
    go_enter Tryz.func42, Tryz.ntmps42
    go_wp2
    go_ret
    exact ⟨rfl, rfl⟩
set_option maxRecDepth 100000 in
theorem yes_any (w : World) (b : Bool) : Calls Tryz.prog 21 #[.bool b] w fun e w' => e = .returned (.int .u64 (bitN b)) ∧ w' = w := by
  cases b
  all_goals
    go_enter Tryz.func21, Tryz.ntmps21
    go_wp2
    go_ret
    exact ⟨rfl, rfl⟩
def encE (m : Bool) : Int := if m then 0 else 1
set_option maxRecDepth 100000 in
set_option maxHeartbeats 8000000 in
theorem kenc_any (w : World) (r c y x : Int) (h : Bool) (t : ByteArray) (va : Value) (l : List Ce) (ha : Rd w 5 va l.length (cellsV l)) (hl : l.length ≤ 100000) (hs : t.size ≤ 100000) (ht : Tab w) :
    Calls Tryz.prog 15 #[scV r c va y x h t] w fun e w' => ∃ v, e = .returned (.tuple #[v, .int .i64 (encE (mayS r c l y x t))]) ∧ Bx w w' v (if mayS r c l y x t = true then keyL r c l y x h t else []) := by
  obtain ⟨a1, c1, rfl, hn1, _⟩ := ha.form
  have HC := Lib.hid ha
  have HT := Lib.hid ht
  obtain ⟨m, hm⟩ : ∃ m, mayS r c l y x t = m := ⟨_, rfl⟩
  rw [hm]
  have HM := Lib.hid hm
  have hhv := Lib.hid (headN_V r c y x h t (by omega))
  have hhl := varsL_len _ (headN_lt r c y x h t)
  have hln := numsS_len t
  have hrl := runsL_len _ l (Nat.le_refl _)
  rw [show (headN r c y x h t).length = 6 from rfl] at hhl
  clear ha ht hm
  go_enter Tryz.func15, Tryz.ntmps15
  go_wp2_with fail
  go_at_call 14
  refine (mayscr_any _ r c y x h t _ l (HC.out.alloc _) (by omega) (by omega) (HT.out.kept ((Chg.refl w nob).alloc _))).mono ?_
  rw [HM.out]
  rintro e w1 ⟨rfl, hc1⟩
  have hb := (Blk.new w 24 _).kept hc1 id
  have H1 : Hid (Chg w w1 nob) := Lib.hid (((Chg.refl w nob).alloc _).trans hc1 (fun _ _ h => h))
  have HB1 := Lib.hid hb
  clear hc1 hb
  cases m
  · go_wp2
    go_ret2
    exact ⟨_, rfl, World.ownsRow_nil _ _ _ _, H1.out, fun k hk => by cases hk⟩
  · have hb := HB1.out
    have u0 := hb.cell 0
    have u1 := hb.cell 1
    have u2 := hb.cell 2
    have u3 := hb.cell 3
    have u4 := hb.cell 4
    have u5 := hb.cell 5
    have u6 := hb.cell 6
    simp only [List.getElem?_toArray, List.getElem?_cons_zero, List.getElem?_cons_succ] at u0 u1 u2 u3 u4 u5 u6
    clear hb
    go_wp2_with fail
    refine wp_one [1, 4, 7, 10, 13, 16] [14, 19, 20] [(14, [1, 4, 7, 10, 16])] [0, 1, 2, 3, 4, 5, 6, 7, 8, 9, 10, 11, 12, 13, 15, 16, 17, 18, 14, 19, 20, 21] rfl (by kernel_rfl) (fun _ _ _ _ _ h => h) ?_; simp only [List.map_cons, List.map_nil, List.getElem?_toArray, List.getElem?_cons_zero, List.getElem?_cons_succ]
    (repeat (first | (apply can0; (· rfl); (· rfl); (· (intro w'; first | (go_simp; with_reducible rfl) | (go_simp; done))); simp only [Act.put, List.setIfInBounds_toArray, List.set_cons_zero, List.set_cons_succ]) | (apply can1; (· rfl); (· rfl); (· (first | (go_simp; with_reducible rfl) | (go_simp; done))); simp only [Act.put, List.setIfInBounds_toArray, List.set_cons_zero, List.set_cons_succ]) | (apply canN; (· rfl); (· rfl); simp only [Act.put, List.setIfInBounds_toArray, List.set_cons_zero, List.set_cons_succ]) | (apply canN1; (· rfl); (· rfl); simp only [Act.put, List.setIfInBounds_toArray, List.set_cons_zero, List.set_cons_succ]) | (apply can0; (· rfl); (· (go_simp; done)); (· (intro w'; first | (go_simp; with_reducible rfl) | (go_simp; done))); simp only [Act.put, List.setIfInBounds_toArray, List.set_cons_zero, List.set_cons_succ]) | (apply can1; (· rfl); (· (go_simp; done)); (· (first | (go_simp; with_reducible rfl) | (go_simp; done))); simp only [Act.put, List.setIfInBounds_toArray, List.set_cons_zero, List.set_cons_succ]) | (apply canN; (· rfl); (· (go_simp; done)); simp only [Act.put, List.setIfInBounds_toArray, List.set_cons_zero, List.set_cons_succ]) | (apply canN1; (· rfl); (· (go_simp; done)); simp only [Act.put, List.setIfInBounds_toArray, List.set_cons_zero, List.set_cons_succ])))
    refine canW rfl [1, 4, 7, 10, 16] rfl (fun K hK => ?_)
    go_simp
    go_at_call 42
    refine (bit_any _ h).mono ?_
    rintro e w2 ⟨rfl, rfl⟩
    (refine hK _ _ (fun u hu => by (simp only [List.mem_cons, List.not_mem_nil, or_false] at hu); (first | (subst hu; exact reRun_mk rfl (by first | (go_simp; with_reducible rfl) | (go_simp; done)) (holds_at rfl)) | ((repeat' (first | (rcases hu with rfl | hu) | (subst hu))) <;> exact reRun_mk rfl (by first | (go_simp; with_reducible rfl) | (go_simp; done)) (holds_at rfl)))) ?_; clear hK K; try simp only [Act.put, List.setIfInBounds_toArray, List.set_cons_zero, List.set_cons_succ])
    clear u0 u1 u2 u3 u4 u5 u6
    (repeat (first | (apply can0; (· rfl); (· rfl); (· (intro w'; first | (go_simp; with_reducible rfl) | (go_simp; done))); simp only [Act.put, List.setIfInBounds_toArray, List.set_cons_zero, List.set_cons_succ]) | (apply can1; (· rfl); (· rfl); (· (first | (go_simp; with_reducible rfl) | (go_simp; done))); simp only [Act.put, List.setIfInBounds_toArray, List.set_cons_zero, List.set_cons_succ]) | (apply canN; (· rfl); (· rfl); simp only [Act.put, List.setIfInBounds_toArray, List.set_cons_zero, List.set_cons_succ]) | (apply canN1; (· rfl); (· rfl); simp only [Act.put, List.setIfInBounds_toArray, List.set_cons_zero, List.set_cons_succ]) | (apply can0; (· rfl); (· (go_simp; done)); (· (intro w'; first | (go_simp; with_reducible rfl) | (go_simp; done))); simp only [Act.put, List.setIfInBounds_toArray, List.set_cons_zero, List.set_cons_succ]) | (apply can1; (· rfl); (· (go_simp; done)); (· (first | (go_simp; with_reducible rfl) | (go_simp; done))); simp only [Act.put, List.setIfInBounds_toArray, List.set_cons_zero, List.set_cons_succ]) | (apply canN; (· rfl); (· (go_simp; done)); simp only [Act.put, List.setIfInBounds_toArray, List.set_cons_zero, List.set_cons_succ]) | (apply canN1; (· rfl); (· (go_simp; done)); simp only [Act.put, List.setIfInBounds_toArray, List.set_cons_zero, List.set_cons_succ])))
    refine canW rfl [] rfl (fun K hK => ?_)
    go_simp
    (refine hK _ _ (fun u hu => by cases hu) ?_; clear hK K; try simp only [Act.put, List.setIfInBounds_toArray, List.set_cons_zero, List.set_cons_succ])
    refine canW rfl [] rfl (fun K hK => ?_)
    go_simp
    go_at_call 41
    refine (vars_any _ _ (headN r c y x h t) (by
      rw [hhv.out]
      exact (Rd.made w1 41 _ (size := 1) (n := 6) (c := 6) rfl (Nat.le_refl _)).kept ((Chg.refl _ nob).drew) (fun _ _ => id)) (headN_lt _ _ _ _ _ _) (by (show 6 ≤ 1000); decide)).mono ?_
    rintro e w2 ⟨v, rfl, hv⟩
    have hc12 : Chg w1 w2 nob := ((Chg.refl w1 nob).alloc _).drew.trans hv.2.1 (fun _ _ h => h)
    have HB2 := Lib.hid (HB1.out.kept hc12 id)
    have HV : Hid (Bx w w2 v (varsL (headN r c y x h t))) := Lib.hid ⟨hv.1, H1.out.trans hc12 (fun _ _ h => h), fun k hk => by
      have h1 := hv.2.2 k hk
      have h2 := H1.out.size
      simp at h1
      omega⟩
    clear hv hc12
    (refine hK _ _ (fun u hu => by cases hu) ?_; clear hK K; try simp only [Act.put, List.setIfInBounds_toArray, List.set_cons_zero, List.set_cons_succ])
    (repeat (first | (apply can0; (· rfl); (· rfl); (· (intro w'; first | (go_simp; with_reducible rfl) | (go_simp; done))); simp only [Act.put, List.setIfInBounds_toArray, List.set_cons_zero, List.set_cons_succ]) | (apply can1; (· rfl); (· rfl); (· (first | (go_simp; with_reducible rfl) | (go_simp; done))); simp only [Act.put, List.setIfInBounds_toArray, List.set_cons_zero, List.set_cons_succ]) | (apply canN; (· rfl); (· rfl); simp only [Act.put, List.setIfInBounds_toArray, List.set_cons_zero, List.set_cons_succ]) | (apply canN1; (· rfl); (· rfl); simp only [Act.put, List.setIfInBounds_toArray, List.set_cons_zero, List.set_cons_succ]) | (apply can0; (· rfl); (· (go_simp; done)); (· (intro w'; first | (go_simp; with_reducible rfl) | (go_simp; done))); simp only [Act.put, List.setIfInBounds_toArray, List.set_cons_zero, List.set_cons_succ]) | (apply can1; (· rfl); (· (go_simp; done)); (· (first | (go_simp; with_reducible rfl) | (go_simp; done))); simp only [Act.put, List.setIfInBounds_toArray, List.set_cons_zero, List.set_cons_succ]) | (apply canN; (· rfl); (· (go_simp; done)); simp only [Act.put, List.setIfInBounds_toArray, List.set_cons_zero, List.set_cons_succ]) | (apply canN1; (· rfl); (· (go_simp; done)); simp only [Act.put, List.setIfInBounds_toArray, List.set_cons_zero, List.set_cons_succ])))
    refine canE ?_
    have hb := HB2.out
    have u0 := hb.cell 0
    have u1 := hb.cell 1
    have u2 := hb.cell 2
    have u3 := hb.cell 3
    have u4 := hb.cell 4
    have u5 := hb.cell 5
    have u6 := hb.cell 6
    simp only [List.getElem?_toArray, List.getElem?_cons_zero, List.getElem?_cons_succ] at u0 u1 u2 u3 u4 u5 u6
    clear hb
    obtain ⟨av, cv, rfl, _⟩ := HV.out.1.form
    go_wp2_with fail
    refine wp_one [2, 5] [3, 6, 7] [(3, [5])] [0, 1, 2, 4, 5, 3, 6, 7, 8, 9] rfl (by kernel_rfl) (fun _ _ _ _ _ h => h) ?_; simp only [List.map_cons, List.map_nil, List.getElem?_toArray, List.getElem?_cons_zero, List.getElem?_cons_succ]
    (repeat (first | (apply can0; (· rfl); (· rfl); (· (intro w'; first | (go_simp; with_reducible rfl) | (go_simp; done))); simp only [Act.put, List.setIfInBounds_toArray, List.set_cons_zero, List.set_cons_succ]) | (apply can1; (· rfl); (· rfl); (· (first | (go_simp; with_reducible rfl) | (go_simp; done))); simp only [Act.put, List.setIfInBounds_toArray, List.set_cons_zero, List.set_cons_succ]) | (apply canN; (· rfl); (· rfl); simp only [Act.put, List.setIfInBounds_toArray, List.set_cons_zero, List.set_cons_succ]) | (apply canN1; (· rfl); (· rfl); simp only [Act.put, List.setIfInBounds_toArray, List.set_cons_zero, List.set_cons_succ]) | (apply can0; (· rfl); (· (go_simp; done)); (· (intro w'; first | (go_simp; with_reducible rfl) | (go_simp; done))); simp only [Act.put, List.setIfInBounds_toArray, List.set_cons_zero, List.set_cons_succ]) | (apply can1; (· rfl); (· (go_simp; done)); (· (first | (go_simp; with_reducible rfl) | (go_simp; done))); simp only [Act.put, List.setIfInBounds_toArray, List.set_cons_zero, List.set_cons_succ]) | (apply canN; (· rfl); (· (go_simp; done)); simp only [Act.put, List.setIfInBounds_toArray, List.set_cons_zero, List.set_cons_succ]) | (apply canN1; (· rfl); (· (go_simp; done)); simp only [Act.put, List.setIfInBounds_toArray, List.set_cons_zero, List.set_cons_succ])))
    refine canW rfl [5] rfl (fun K hK => ?_)
    rw [if_pos (by rfl)]
    refine wp_bxs _ _ rfl _ (varsL (headN r c y x h t)) rfl HV.out.drew t rfl (by omega) ?_
    intro v3 w3 hb3 hc3
    have hne := HV.out.1.ne HB2.out (by decide)
    have hb4 := HB2.out.kept (Chg.drew (Chg.refl w2 nob)) id |>.kept hc3 hne
    have HB3 := Lib.hid hb3
    clear u0 u1 u2 u3 u4 u5 u6 hc3
    have u2 := hb4.cell 2
    simp only [List.getElem?_toArray, List.getElem?_cons_zero, List.getElem?_cons_succ] at u2
    clear hb4
    (refine hK _ _ (fun u hu => by (simp only [List.mem_cons, List.not_mem_nil, or_false] at hu); (first | (subst hu; exact reRun_mk rfl (by first | (go_simp; with_reducible rfl) | (go_simp; done)) (holds_at rfl)) | ((repeat' (first | (rcases hu with rfl | hu) | (subst hu))) <;> exact reRun_mk rfl (by first | (go_simp; with_reducible rfl) | (go_simp; done)) (holds_at rfl)))) ?_; clear hK K; try simp only [Act.put, List.setIfInBounds_toArray, List.set_cons_zero, List.set_cons_succ])
    (repeat (first | (apply can0; (· rfl); (· rfl); (· (intro w'; first | (go_simp; with_reducible rfl) | (go_simp; done))); simp only [Act.put, List.setIfInBounds_toArray, List.set_cons_zero, List.set_cons_succ]) | (apply can1; (· rfl); (· rfl); (· (first | (go_simp; with_reducible rfl) | (go_simp; done))); simp only [Act.put, List.setIfInBounds_toArray, List.set_cons_zero, List.set_cons_succ]) | (apply canN; (· rfl); (· rfl); simp only [Act.put, List.setIfInBounds_toArray, List.set_cons_zero, List.set_cons_succ]) | (apply canN1; (· rfl); (· rfl); simp only [Act.put, List.setIfInBounds_toArray, List.set_cons_zero, List.set_cons_succ]) | (apply can0; (· rfl); (· (go_simp; done)); (· (intro w'; first | (go_simp; with_reducible rfl) | (go_simp; done))); simp only [Act.put, List.setIfInBounds_toArray, List.set_cons_zero, List.set_cons_succ]) | (apply can1; (· rfl); (· (go_simp; done)); (· (first | (go_simp; with_reducible rfl) | (go_simp; done))); simp only [Act.put, List.setIfInBounds_toArray, List.set_cons_zero, List.set_cons_succ]) | (apply canN; (· rfl); (· (go_simp; done)); simp only [Act.put, List.setIfInBounds_toArray, List.set_cons_zero, List.set_cons_succ]) | (apply canN1; (· rfl); (· (go_simp; done)); simp only [Act.put, List.setIfInBounds_toArray, List.set_cons_zero, List.set_cons_succ])))
    refine canW rfl [] rfl (fun K hK => ?_)
    go_simp
    go_at_call 43
    refine (kcells_any w3 _ l (HC.out.kept HB3.out.2.1 (fun _ _ => id)) hl).mono ?_
    rintro e w4 ⟨v4, rfl, hv4⟩
    have HB4 : Hid (Bx w w4 v3 (varsL (headN r c y x h t) ++ numsS t)) := Lib.hid ⟨HB3.out.1.kept hv4.2.1 (fun _ _ => id), HB3.out.2.1.trans hv4.2.1 (fun _ _ h => h), HB3.out.2.2⟩
    have HV4 := Lib.hid hv4.1
    clear hv4 hb3 hne
    (refine hK _ _ (fun u hu => by cases hu) ?_; clear hK K; try simp only [Act.put, List.setIfInBounds_toArray, List.set_cons_zero, List.set_cons_succ])
    (repeat (first | (apply can0; (· rfl); (· rfl); (· (intro w'; first | (go_simp; with_reducible rfl) | (go_simp; done))); simp only [Act.put, List.setIfInBounds_toArray, List.set_cons_zero, List.set_cons_succ]) | (apply can1; (· rfl); (· rfl); (· (first | (go_simp; with_reducible rfl) | (go_simp; done))); simp only [Act.put, List.setIfInBounds_toArray, List.set_cons_zero, List.set_cons_succ]) | (apply canN; (· rfl); (· rfl); simp only [Act.put, List.setIfInBounds_toArray, List.set_cons_zero, List.set_cons_succ]) | (apply canN1; (· rfl); (· rfl); simp only [Act.put, List.setIfInBounds_toArray, List.set_cons_zero, List.set_cons_succ]) | (apply can0; (· rfl); (· (go_simp; done)); (· (intro w'; first | (go_simp; with_reducible rfl) | (go_simp; done))); simp only [Act.put, List.setIfInBounds_toArray, List.set_cons_zero, List.set_cons_succ]) | (apply can1; (· rfl); (· (go_simp; done)); (· (first | (go_simp; with_reducible rfl) | (go_simp; done))); simp only [Act.put, List.setIfInBounds_toArray, List.set_cons_zero, List.set_cons_succ]) | (apply canN; (· rfl); (· (go_simp; done)); simp only [Act.put, List.setIfInBounds_toArray, List.set_cons_zero, List.set_cons_succ]) | (apply canN1; (· rfl); (· (go_simp; done)); simp only [Act.put, List.setIfInBounds_toArray, List.set_cons_zero, List.set_cons_succ])))
    refine canW rfl [] rfl (fun K hK => ?_)
    rw [if_pos (by rfl)]
    have hlv : (varsL (headN r c y x h t) ++ numsS t).length ≤ 60 + t.size := by rw [List.length_append]; omega
    refine wp_bx _ _ rfl _ (varsL (headN r c y x h t) ++ numsS t) rfl HB4.out _ (runsL l) rfl HV4.out (by omega) ?_
    intro v5 w5 hb5 hc5
    have HB5 := Lib.hid hb5
    clear hb5 hc5
    (refine hK _ _ (fun u hu => by cases hu) ?_; clear hK K; try simp only [Act.put, List.setIfInBounds_toArray, List.set_cons_zero, List.set_cons_succ])
    (repeat (first | (apply can0; (· rfl); (· rfl); (· (intro w'; first | (go_simp; with_reducible rfl) | (go_simp; done))); simp only [Act.put, List.setIfInBounds_toArray, List.set_cons_zero, List.set_cons_succ]) | (apply can1; (· rfl); (· rfl); (· (first | (go_simp; with_reducible rfl) | (go_simp; done))); simp only [Act.put, List.setIfInBounds_toArray, List.set_cons_zero, List.set_cons_succ]) | (apply canN; (· rfl); (· rfl); simp only [Act.put, List.setIfInBounds_toArray, List.set_cons_zero, List.set_cons_succ]) | (apply canN1; (· rfl); (· rfl); simp only [Act.put, List.setIfInBounds_toArray, List.set_cons_zero, List.set_cons_succ]) | (apply can0; (· rfl); (· (go_simp; done)); (· (intro w'; first | (go_simp; with_reducible rfl) | (go_simp; done))); simp only [Act.put, List.setIfInBounds_toArray, List.set_cons_zero, List.set_cons_succ]) | (apply can1; (· rfl); (· (go_simp; done)); (· (first | (go_simp; with_reducible rfl) | (go_simp; done))); simp only [Act.put, List.setIfInBounds_toArray, List.set_cons_zero, List.set_cons_succ]) | (apply canN; (· rfl); (· (go_simp; done)); simp only [Act.put, List.setIfInBounds_toArray, List.set_cons_zero, List.set_cons_succ]) | (apply canN1; (· rfl); (· (go_simp; done)); simp only [Act.put, List.setIfInBounds_toArray, List.set_cons_zero, List.set_cons_succ])))
    refine canE ?_
    go_wp2
    go_ret2
    exact ⟨_, rfl, HB5.out⟩
set_option maxRecDepth 100000 in
set_option maxHeartbeats 8000000 in
theorem renc_any (w : World) (r c y x : Int) (h : Bool) (t : ByteArray) (va : Value) (l : List Ce) (ha : Rd w 5 va l.length (cellsV l)) (hl : l.length ≤ 100000) (hs : t.size ≤ 100000) (ht : Tab w) :
    Calls Tryz.prog 19 #[scV r c va y x h t] w fun e w' => ∃ v, e = .returned (.tuple #[v, .int .i64 (encE (mayS r c l y x t))]) ∧ Bx w w' v (if mayS r c l y x t = true then keyL r c l y x h t else []) := by
  obtain ⟨a1, c1, rfl, hn1, _⟩ := ha.form
  have HC := Lib.hid ha
  have HT := Lib.hid ht
  obtain ⟨m, hm⟩ : ∃ m, mayS r c l y x t = m := ⟨_, rfl⟩
  rw [hm]
  have HM := Lib.hid hm
  have hhv := Lib.hid (headN_V r c y x h t (by omega))
  have hhl := varsL_len _ (headN_lt r c y x h t)
  have hln := numsS_len t
  have hrl := runsL_len _ l (Nat.le_refl _)
  rw [show (headN r c y x h t).length = 6 from rfl] at hhl
  clear ha ht hm
  go_enter Tryz.func19, Tryz.ntmps19
  go_wp2_with fail
  go_at_call 18
  refine (rmayscr_any _ r c y x h t _ l (HC.out.alloc _) (by omega) (by omega)).mono ?_
  rw [HM.out]
  rintro e w1 ⟨rfl, hc1⟩
  have hb := (Blk.new w 24 _).kept hc1 id
  have H1 : Hid (Chg w w1 nob) := Lib.hid (((Chg.refl w nob).alloc _).trans hc1 (fun _ _ h => h))
  have HB1 := Lib.hid hb
  clear hc1 hb
  cases m
  · go_wp2
    go_ret2
    exact ⟨_, rfl, World.ownsRow_nil _ _ _ _, H1.out, fun k hk => by cases hk⟩
  · have hb := HB1.out
    have u0 := hb.cell 0
    have u1 := hb.cell 1
    have u2 := hb.cell 2
    have u3 := hb.cell 3
    have u4 := hb.cell 4
    have u5 := hb.cell 5
    have u6 := hb.cell 6
    simp only [List.getElem?_toArray, List.getElem?_cons_zero, List.getElem?_cons_succ] at u0 u1 u2 u3 u4 u5 u6
    clear hb
    go_wp2_with fail
    refine wp_one [1, 4, 7, 10, 13, 16] [14, 19, 20] [(14, [1, 4, 7, 10, 16])] [0, 1, 2, 3, 4, 5, 6, 7, 8, 9, 10, 11, 12, 13, 15, 16, 17, 18, 14, 19, 20, 21] rfl (by kernel_rfl) (fun _ _ _ _ _ h => h) ?_; simp only [List.map_cons, List.map_nil, List.getElem?_toArray, List.getElem?_cons_zero, List.getElem?_cons_succ]
    (repeat (first | (apply can0; (· rfl); (· rfl); (· (intro w'; first | (go_simp; with_reducible rfl) | (go_simp; done))); simp only [Act.put, List.setIfInBounds_toArray, List.set_cons_zero, List.set_cons_succ]) | (apply can1; (· rfl); (· rfl); (· (first | (go_simp; with_reducible rfl) | (go_simp; done))); simp only [Act.put, List.setIfInBounds_toArray, List.set_cons_zero, List.set_cons_succ]) | (apply canN; (· rfl); (· rfl); simp only [Act.put, List.setIfInBounds_toArray, List.set_cons_zero, List.set_cons_succ]) | (apply canN1; (· rfl); (· rfl); simp only [Act.put, List.setIfInBounds_toArray, List.set_cons_zero, List.set_cons_succ]) | (apply can0; (· rfl); (· (go_simp; done)); (· (intro w'; first | (go_simp; with_reducible rfl) | (go_simp; done))); simp only [Act.put, List.setIfInBounds_toArray, List.set_cons_zero, List.set_cons_succ]) | (apply can1; (· rfl); (· (go_simp; done)); (· (first | (go_simp; with_reducible rfl) | (go_simp; done))); simp only [Act.put, List.setIfInBounds_toArray, List.set_cons_zero, List.set_cons_succ]) | (apply canN; (· rfl); (· (go_simp; done)); simp only [Act.put, List.setIfInBounds_toArray, List.set_cons_zero, List.set_cons_succ]) | (apply canN1; (· rfl); (· (go_simp; done)); simp only [Act.put, List.setIfInBounds_toArray, List.set_cons_zero, List.set_cons_succ])))
    refine canW rfl [1, 4, 7, 10, 16] rfl (fun K hK => ?_)
    go_simp
    go_at_call 21
    refine (yes_any _ h).mono ?_
    rintro e w2 ⟨rfl, rfl⟩
    (refine hK _ _ (fun u hu => by (simp only [List.mem_cons, List.not_mem_nil, or_false] at hu); (first | (subst hu; exact reRun_mk rfl (by first | (go_simp; with_reducible rfl) | (go_simp; done)) (holds_at rfl)) | ((repeat' (first | (rcases hu with rfl | hu) | (subst hu))) <;> exact reRun_mk rfl (by first | (go_simp; with_reducible rfl) | (go_simp; done)) (holds_at rfl)))) ?_; clear hK K; try simp only [Act.put, List.setIfInBounds_toArray, List.set_cons_zero, List.set_cons_succ])
    clear u0 u1 u2 u3 u4 u5 u6
    (repeat (first | (apply can0; (· rfl); (· rfl); (· (intro w'; first | (go_simp; with_reducible rfl) | (go_simp; done))); simp only [Act.put, List.setIfInBounds_toArray, List.set_cons_zero, List.set_cons_succ]) | (apply can1; (· rfl); (· rfl); (· (first | (go_simp; with_reducible rfl) | (go_simp; done))); simp only [Act.put, List.setIfInBounds_toArray, List.set_cons_zero, List.set_cons_succ]) | (apply canN; (· rfl); (· rfl); simp only [Act.put, List.setIfInBounds_toArray, List.set_cons_zero, List.set_cons_succ]) | (apply canN1; (· rfl); (· rfl); simp only [Act.put, List.setIfInBounds_toArray, List.set_cons_zero, List.set_cons_succ]) | (apply can0; (· rfl); (· (go_simp; done)); (· (intro w'; first | (go_simp; with_reducible rfl) | (go_simp; done))); simp only [Act.put, List.setIfInBounds_toArray, List.set_cons_zero, List.set_cons_succ]) | (apply can1; (· rfl); (· (go_simp; done)); (· (first | (go_simp; with_reducible rfl) | (go_simp; done))); simp only [Act.put, List.setIfInBounds_toArray, List.set_cons_zero, List.set_cons_succ]) | (apply canN; (· rfl); (· (go_simp; done)); simp only [Act.put, List.setIfInBounds_toArray, List.set_cons_zero, List.set_cons_succ]) | (apply canN1; (· rfl); (· (go_simp; done)); simp only [Act.put, List.setIfInBounds_toArray, List.set_cons_zero, List.set_cons_succ])))
    refine canW rfl [] rfl (fun K hK => ?_)
    go_simp
    (refine hK _ _ (fun u hu => by cases hu) ?_; clear hK K; try simp only [Act.put, List.setIfInBounds_toArray, List.set_cons_zero, List.set_cons_succ])
    refine canW rfl [] rfl (fun K hK => ?_)
    go_simp
    go_at_call 20
    refine (nums_any _ _ (headN r c y x h t) (by
      rw [hhv.out]
      exact (Rd.made w1 41 _ (size := 1) (n := 6) (c := 6) rfl (Nat.le_refl _)).kept ((Chg.refl _ nob).drew) (fun _ _ => id)) (headN_lt _ _ _ _ _ _) (by (show 6 ≤ 1000); decide)).mono ?_
    rintro e w2 ⟨v, rfl, hv⟩
    have hc12 : Chg w1 w2 nob := ((Chg.refl w1 nob).alloc _).drew.trans hv.2.1 (fun _ _ h => h)
    have HB2 := Lib.hid (HB1.out.kept hc12 id)
    have HV : Hid (Bx w w2 v (varsL (headN r c y x h t))) := Lib.hid ⟨hv.1, H1.out.trans hc12 (fun _ _ h => h), fun k hk => by
      have h1 := hv.2.2 k hk
      have h2 := H1.out.size
      simp at h1
      omega⟩
    clear hv hc12
    (refine hK _ _ (fun u hu => by cases hu) ?_; clear hK K; try simp only [Act.put, List.setIfInBounds_toArray, List.set_cons_zero, List.set_cons_succ])
    (repeat (first | (apply can0; (· rfl); (· rfl); (· (intro w'; first | (go_simp; with_reducible rfl) | (go_simp; done))); simp only [Act.put, List.setIfInBounds_toArray, List.set_cons_zero, List.set_cons_succ]) | (apply can1; (· rfl); (· rfl); (· (first | (go_simp; with_reducible rfl) | (go_simp; done))); simp only [Act.put, List.setIfInBounds_toArray, List.set_cons_zero, List.set_cons_succ]) | (apply canN; (· rfl); (· rfl); simp only [Act.put, List.setIfInBounds_toArray, List.set_cons_zero, List.set_cons_succ]) | (apply canN1; (· rfl); (· rfl); simp only [Act.put, List.setIfInBounds_toArray, List.set_cons_zero, List.set_cons_succ]) | (apply can0; (· rfl); (· (go_simp; done)); (· (intro w'; first | (go_simp; with_reducible rfl) | (go_simp; done))); simp only [Act.put, List.setIfInBounds_toArray, List.set_cons_zero, List.set_cons_succ]) | (apply can1; (· rfl); (· (go_simp; done)); (· (first | (go_simp; with_reducible rfl) | (go_simp; done))); simp only [Act.put, List.setIfInBounds_toArray, List.set_cons_zero, List.set_cons_succ]) | (apply canN; (· rfl); (· (go_simp; done)); simp only [Act.put, List.setIfInBounds_toArray, List.set_cons_zero, List.set_cons_succ]) | (apply canN1; (· rfl); (· (go_simp; done)); simp only [Act.put, List.setIfInBounds_toArray, List.set_cons_zero, List.set_cons_succ])))
    refine canE ?_
    have hb := HB2.out
    have u0 := hb.cell 0
    have u1 := hb.cell 1
    have u2 := hb.cell 2
    have u3 := hb.cell 3
    have u4 := hb.cell 4
    have u5 := hb.cell 5
    have u6 := hb.cell 6
    simp only [List.getElem?_toArray, List.getElem?_cons_zero, List.getElem?_cons_succ] at u0 u1 u2 u3 u4 u5 u6
    clear hb
    obtain ⟨av, cv, rfl, _⟩ := HV.out.1.form
    go_wp2_with fail
    refine wp_one [2, 5] [3, 6, 7] [(3, [5])] [0, 1, 2, 4, 5, 3, 6, 7, 8, 9] rfl (by kernel_rfl) (fun _ _ _ _ _ h => h) ?_; simp only [List.map_cons, List.map_nil, List.getElem?_toArray, List.getElem?_cons_zero, List.getElem?_cons_succ]
    (repeat (first | (apply can0; (· rfl); (· rfl); (· (intro w'; first | (go_simp; with_reducible rfl) | (go_simp; done))); simp only [Act.put, List.setIfInBounds_toArray, List.set_cons_zero, List.set_cons_succ]) | (apply can1; (· rfl); (· rfl); (· (first | (go_simp; with_reducible rfl) | (go_simp; done))); simp only [Act.put, List.setIfInBounds_toArray, List.set_cons_zero, List.set_cons_succ]) | (apply canN; (· rfl); (· rfl); simp only [Act.put, List.setIfInBounds_toArray, List.set_cons_zero, List.set_cons_succ]) | (apply canN1; (· rfl); (· rfl); simp only [Act.put, List.setIfInBounds_toArray, List.set_cons_zero, List.set_cons_succ]) | (apply can0; (· rfl); (· (go_simp; done)); (· (intro w'; first | (go_simp; with_reducible rfl) | (go_simp; done))); simp only [Act.put, List.setIfInBounds_toArray, List.set_cons_zero, List.set_cons_succ]) | (apply can1; (· rfl); (· (go_simp; done)); (· (first | (go_simp; with_reducible rfl) | (go_simp; done))); simp only [Act.put, List.setIfInBounds_toArray, List.set_cons_zero, List.set_cons_succ]) | (apply canN; (· rfl); (· (go_simp; done)); simp only [Act.put, List.setIfInBounds_toArray, List.set_cons_zero, List.set_cons_succ]) | (apply canN1; (· rfl); (· (go_simp; done)); simp only [Act.put, List.setIfInBounds_toArray, List.set_cons_zero, List.set_cons_succ])))
    refine canW rfl [5] rfl (fun K hK => ?_)
    rw [if_pos (by rfl)]
    refine wp_bxs _ _ rfl _ (varsL (headN r c y x h t)) rfl HV.out.drew t rfl (by omega) ?_
    intro v3 w3 hb3 hc3
    have hne := HV.out.1.ne HB2.out (by decide)
    have hb4 := HB2.out.kept (Chg.drew (Chg.refl w2 nob)) id |>.kept hc3 hne
    have HB3 := Lib.hid hb3
    clear u0 u1 u2 u3 u4 u5 u6 hc3
    have u2 := hb4.cell 2
    simp only [List.getElem?_toArray, List.getElem?_cons_zero, List.getElem?_cons_succ] at u2
    clear hb4
    (refine hK _ _ (fun u hu => by (simp only [List.mem_cons, List.not_mem_nil, or_false] at hu); (first | (subst hu; exact reRun_mk rfl (by first | (go_simp; with_reducible rfl) | (go_simp; done)) (holds_at rfl)) | ((repeat' (first | (rcases hu with rfl | hu) | (subst hu))) <;> exact reRun_mk rfl (by first | (go_simp; with_reducible rfl) | (go_simp; done)) (holds_at rfl)))) ?_; clear hK K; try simp only [Act.put, List.setIfInBounds_toArray, List.set_cons_zero, List.set_cons_succ])
    (repeat (first | (apply can0; (· rfl); (· rfl); (· (intro w'; first | (go_simp; with_reducible rfl) | (go_simp; done))); simp only [Act.put, List.setIfInBounds_toArray, List.set_cons_zero, List.set_cons_succ]) | (apply can1; (· rfl); (· rfl); (· (first | (go_simp; with_reducible rfl) | (go_simp; done))); simp only [Act.put, List.setIfInBounds_toArray, List.set_cons_zero, List.set_cons_succ]) | (apply canN; (· rfl); (· rfl); simp only [Act.put, List.setIfInBounds_toArray, List.set_cons_zero, List.set_cons_succ]) | (apply canN1; (· rfl); (· rfl); simp only [Act.put, List.setIfInBounds_toArray, List.set_cons_zero, List.set_cons_succ]) | (apply can0; (· rfl); (· (go_simp; done)); (· (intro w'; first | (go_simp; with_reducible rfl) | (go_simp; done))); simp only [Act.put, List.setIfInBounds_toArray, List.set_cons_zero, List.set_cons_succ]) | (apply can1; (· rfl); (· (go_simp; done)); (· (first | (go_simp; with_reducible rfl) | (go_simp; done))); simp only [Act.put, List.setIfInBounds_toArray, List.set_cons_zero, List.set_cons_succ]) | (apply canN; (· rfl); (· (go_simp; done)); simp only [Act.put, List.setIfInBounds_toArray, List.set_cons_zero, List.set_cons_succ]) | (apply canN1; (· rfl); (· (go_simp; done)); simp only [Act.put, List.setIfInBounds_toArray, List.set_cons_zero, List.set_cons_succ])))
    refine canW rfl [] rfl (fun K hK => ?_)
    go_simp
    go_at_call 22
    refine (rcells_any w3 _ l (HC.out.kept HB3.out.2.1 (fun _ _ => id)) hl).mono ?_
    rintro e w4 ⟨v4, rfl, hv4⟩
    have HB4 : Hid (Bx w w4 v3 (varsL (headN r c y x h t) ++ numsS t)) := Lib.hid ⟨HB3.out.1.kept hv4.2.1 (fun _ _ => id), HB3.out.2.1.trans hv4.2.1 (fun _ _ h => h), HB3.out.2.2⟩
    have HV4 := Lib.hid hv4.1
    clear hv4 hb3 hne
    (refine hK _ _ (fun u hu => by cases hu) ?_; clear hK K; try simp only [Act.put, List.setIfInBounds_toArray, List.set_cons_zero, List.set_cons_succ])
    (repeat (first | (apply can0; (· rfl); (· rfl); (· (intro w'; first | (go_simp; with_reducible rfl) | (go_simp; done))); simp only [Act.put, List.setIfInBounds_toArray, List.set_cons_zero, List.set_cons_succ]) | (apply can1; (· rfl); (· rfl); (· (first | (go_simp; with_reducible rfl) | (go_simp; done))); simp only [Act.put, List.setIfInBounds_toArray, List.set_cons_zero, List.set_cons_succ]) | (apply canN; (· rfl); (· rfl); simp only [Act.put, List.setIfInBounds_toArray, List.set_cons_zero, List.set_cons_succ]) | (apply canN1; (· rfl); (· rfl); simp only [Act.put, List.setIfInBounds_toArray, List.set_cons_zero, List.set_cons_succ]) | (apply can0; (· rfl); (· (go_simp; done)); (· (intro w'; first | (go_simp; with_reducible rfl) | (go_simp; done))); simp only [Act.put, List.setIfInBounds_toArray, List.set_cons_zero, List.set_cons_succ]) | (apply can1; (· rfl); (· (go_simp; done)); (· (first | (go_simp; with_reducible rfl) | (go_simp; done))); simp only [Act.put, List.setIfInBounds_toArray, List.set_cons_zero, List.set_cons_succ]) | (apply canN; (· rfl); (· (go_simp; done)); simp only [Act.put, List.setIfInBounds_toArray, List.set_cons_zero, List.set_cons_succ]) | (apply canN1; (· rfl); (· (go_simp; done)); simp only [Act.put, List.setIfInBounds_toArray, List.set_cons_zero, List.set_cons_succ])))
    refine canW rfl [] rfl (fun K hK => ?_)
    rw [if_pos (by rfl)]
    have hlv : (varsL (headN r c y x h t) ++ numsS t).length ≤ 60 + t.size := by rw [List.length_append]; omega
    refine wp_bx _ _ rfl _ (varsL (headN r c y x h t) ++ numsS t) rfl HB4.out _ (runsL l) rfl HV4.out (by omega) ?_
    intro v5 w5 hb5 hc5
    have HB5 := Lib.hid hb5
    clear hb5 hc5
    (refine hK _ _ (fun u hu => by cases hu) ?_; clear hK K; try simp only [Act.put, List.setIfInBounds_toArray, List.set_cons_zero, List.set_cons_succ])
    (repeat (first | (apply can0; (· rfl); (· rfl); (· (intro w'; first | (go_simp; with_reducible rfl) | (go_simp; done))); simp only [Act.put, List.setIfInBounds_toArray, List.set_cons_zero, List.set_cons_succ]) | (apply can1; (· rfl); (· rfl); (· (first | (go_simp; with_reducible rfl) | (go_simp; done))); simp only [Act.put, List.setIfInBounds_toArray, List.set_cons_zero, List.set_cons_succ]) | (apply canN; (· rfl); (· rfl); simp only [Act.put, List.setIfInBounds_toArray, List.set_cons_zero, List.set_cons_succ]) | (apply canN1; (· rfl); (· rfl); simp only [Act.put, List.setIfInBounds_toArray, List.set_cons_zero, List.set_cons_succ]) | (apply can0; (· rfl); (· (go_simp; done)); (· (intro w'; first | (go_simp; with_reducible rfl) | (go_simp; done))); simp only [Act.put, List.setIfInBounds_toArray, List.set_cons_zero, List.set_cons_succ]) | (apply can1; (· rfl); (· (go_simp; done)); (· (first | (go_simp; with_reducible rfl) | (go_simp; done))); simp only [Act.put, List.setIfInBounds_toArray, List.set_cons_zero, List.set_cons_succ]) | (apply canN; (· rfl); (· (go_simp; done)); simp only [Act.put, List.setIfInBounds_toArray, List.set_cons_zero, List.set_cons_succ]) | (apply canN1; (· rfl); (· (go_simp; done)); simp only [Act.put, List.setIfInBounds_toArray, List.set_cons_zero, List.set_cons_succ])))
    refine canE ?_
    go_wp2
    go_ret2
    exact ⟨_, rfl, HB5.out⟩
end Go.Proofs.YtmbdpcamhkdkmaaGreatDoor
