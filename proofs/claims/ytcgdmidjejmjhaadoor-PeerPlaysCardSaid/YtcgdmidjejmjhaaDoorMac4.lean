
/-
  Package mac: mixed.
-/
import Derived.Test.YtcgdmidjejmjhaaDoorMac3
namespace Go.Proofs.YtcgdmidjejmjhaaDoor
open Go.RowKit
set_option linter.unusedVariables false
set_option linter.unusedSimpArgs false

/-- The table of the rounds' constants. -/
structure Tab (w : World) : Prop where
  rounds : ∀ (j : Nat) (x : Int), roundsL[j]? = some x → w.cell? ⟨0, j, none⟩ = some (.int .u32 x)
theorem Tab.kept {w w' : World} {F : Nat → Prop} (h : Tab w) (hc : Chg w w' F) (hf : ¬ F 0) : Tab w' := ⟨fun j x hj => hc.cell (h.rounds j x hj) hf⟩
/-- The state behind i rounds. -/
def stN (s : S8) (W : List Int) (i : Nat) : S8 := rndsF s (roundsL.take i) (W.take i)
theorem rndsF_snoc (ks : List Int) : ∀ (ws : List Int) (s : S8) (k w : Int), ks.length = ws.length → rndsF s (ks ++ [k]) (ws ++ [w]) = rnd (rndsF s ks ws) k w := by
  induction ks with
  | nil =>
    intro ws s k w h
    obtain rfl : ws = [] := List.length_eq_zero_iff.1 h.symm
    rfl
  | cons k' ks ih =>
    intro ws s k w h
    cases ws with
    | nil => simp at h
    | cons w' ws => exact ih ws (rnd s k' w') k w (by simpa using h)
theorem stN_succ {s : S8} {W : List Int} {i : Nat} (h : i < 64) (hW : W.length = 64) : stN s W (i + 1) = rnd (stN s W i) (roundsL.getD i 0) (W.getD i 0) := by
  unfold stN
  have hr : roundsL.length = 64 := rfl
  rw [take_snoc (by omega) 0, take_snoc (l := W) (by omega) 0, rndsF_snoc _ _ _ _ _ (by simp [hr, hW])]
theorem stN_end {s : S8} {W : List Int} (hW : W.length = 64) : stN s W 64 = rndsF s roundsL W := by
  unfold stN
  rw [List.take_of_length_le (by exact Nat.le_refl _), List.take_of_length_le (by omega)]
theorem sched_len (l : List Int) : (sched l).length = 64 := by rw [sched, extF_len]; simp [first16]
/-- Words to whose first i the others were added. -/
def addN (P Q : List Int) (i : Nat) : List Int := (List.zipWith (fun x y => wu (x + y)) P Q).take i ++ P.drop i
theorem addN_zero (P Q : List Int) : addN P Q 0 = P := by simp [addN]
theorem addN_at {P Q : List Int} {i : Nat} (hi : i < P.length) (hq : i < Q.length) : (addN P Q i)[i]? = some (P.getD i 0) := by
  unfold addN
  rw [List.getElem?_append_right (by simp; omega)]
  simp [List.getD, show min i (min P.length Q.length) = i by omega, hi]
theorem addN_set {P Q : List Int} {i : Nat} (hi : i < P.length) (hq : i < Q.length) : (addN P Q i).set i (wu (P.getD i 0 + Q.getD i 0)) = addN P Q (i + 1) := by
  unfold addN
  have hl : ((List.zipWith (fun x y => wu (x + y)) P Q).take i).length = i := by simp; omega
  rw [List.set_append_right _ _ (by omega), hl, Nat.sub_self, List.drop_eq_getElem_cons hi, List.set_cons_zero, List.take_succ_eq_append_getElem (by simp; omega), List.append_assoc]
  simp [List.getD, hi, hq]
theorem uArr : Tryd.prog.underlying 82 = some (.array 64 72) := by kernel_rfl
theorem uU32 : Tryd.prog.underlying 72 = some (.int .u32) := by kernel_rfl
theorem arr_index (w : World) (A : Array Value) (i : Nat) (x : Int) (hi : i < 64) (h : A[i]? = some (.int .u32 x)) :
    (Instr.index 82 (.agg A) (.int .i64 i)).run Tryd.prog w = .ok (.int .u32 x) w := by
  have hq : (Tryd.prog.info? 72).map (·.size) = some 1 := by kernel_rfl
  cases hi' : Tryd.prog.info? 72 with
  | none => simp [hi'] at hq
  | some d =>
    have hd : d.size = 1 := by simpa [hi'] using hq
    have h0 : (0 : Int) ≤ (i : Int) ∧ (i : Int) < 64 := by omega
    have hag : (isAgg 72).run Tryd.prog w = .ok false w := by
      unfold isAgg
      rw [Sem.run_bind, run_underlying uU32 w]
      rfl
    simp [Instr.index, asIntOf, Sem.run_bind, run_underlying uArr, sizeOf, typeInfo, hi', hd, h0, part, hag, h]
    intro hx
    omega
set_option maxRecDepth 100000 in
set_option maxHeartbeats 1500000 in
theorem mixed_any (w : World) (s : S8) (va : Value) (l : List Int) (ht : Tab w) (ha : Rd w 1 va l.length (bytesV l)) (hb : ∀ x ∈ l, 0 ≤ x ∧ x ≤ 255) (hl : l.length = 64) :
    Calls Tryd.prog 42 #[s.val, va] w fun e w' => e = .returned (mixF s l).val ∧ Chg w w' nob := by
  obtain ⟨a0, b0, c0, d0, e0, f0, g0, h0⟩ := s
  have HC := Lib.hid ha
  have HL := Lib.hid hl
  have HBY := Lib.hid hb
  have HT := Lib.hid ht
  clear ha hb hl ht
  rw [show S8.val ⟨a0, b0, c0, d0, e0, f0, g0, h0⟩ = .agg #[.int .u32 a0, .int .u32 b0, .int .u32 c0, .int .u32 d0, .int .u32 e0, .int .u32 f0, .int .u32 g0, .int .u32 h0] from rfl]
  go_enter Tryd.func42, Tryd.ntmps42
  go_wp2_with fail
  go_at_call 47
  obtain ⟨W0, hW0⟩ : ∃ W, World.alloc (World.alloc (World.alloc w (.cells #[.int .u32 a0, .int .u32 b0, .int .u32 c0, .int .u32 d0, .int .u32 e0, .int .u32 f0, .int .u32 g0, .int .u32 h0] 75)) (.cells #[.int .u32 0, .int .u32 0, .int .u32 0, .int .u32 0, .int .u32 0, .int .u32 0, .int .u32 0, .int .u32 0] 75)) (.cells #[.int .u32 a0, .int .u32 b0, .int .u32 c0, .int .u32 d0, .int .u32 e0, .int .u32 f0, .int .u32 g0, .int .u32 h0] 75) = W := ⟨_, rfl⟩
  have hc0 : Chg w W0 nob := by rw [← hW0]; exact (((Chg.refl w nob).alloc _).alloc _).alloc _
  have hx0 : Blk W0 w.heap.size 75 #[.int .u32 a0, .int .u32 b0, .int .u32 c0, .int .u32 d0, .int .u32 e0, .int .u32 f0, .int .u32 g0, .int .u32 h0] := by rw [← hW0]; exact ((Blk.new w _ _).alloc _).alloc _
  have hx1 : Blk W0 (w.heap.size + 1) 75 #[.int .u32 0, .int .u32 0, .int .u32 0, .int .u32 0, .int .u32 0, .int .u32 0, .int .u32 0, .int .u32 0] := by
    rw [← hW0]; refine Blk.alloc ?_ _; have h := Blk.new (w.alloc (.cells #[.int .u32 a0, .int .u32 b0, .int .u32 c0, .int .u32 d0, .int .u32 e0, .int .u32 f0, .int .u32 g0, .int .u32 h0] 75)) 75 #[.int .u32 0, .int .u32 0, .int .u32 0, .int .u32 0, .int .u32 0, .int .u32 0, .int .u32 0, .int .u32 0]
    simpa using h
  have hx2 : Blk W0 (w.heap.size + 2) 75 #[.int .u32 a0, .int .u32 b0, .int .u32 c0, .int .u32 d0, .int .u32 e0, .int .u32 f0, .int .u32 g0, .int .u32 h0] := by
    rw [← hW0]; have h := Blk.new ((w.alloc (.cells #[.int .u32 a0, .int .u32 b0, .int .u32 c0, .int .u32 d0, .int .u32 e0, .int .u32 f0, .int .u32 g0, .int .u32 h0] 75)).alloc (.cells #[.int .u32 0, .int .u32 0, .int .u32 0, .int .u32 0, .int .u32 0, .int .u32 0, .int .u32 0, .int .u32 0] 75)) 75 #[.int .u32 a0, .int .u32 b0, .int .u32 c0, .int .u32 d0, .int .u32 e0, .int .u32 f0, .int .u32 g0, .int .u32 h0]
    simpa using h
  rw [hW0]
  clear hW0
  refine (spread_any W0 va l (HC.out.kept hc0 (fun _ _ h => h)) HBY.out HL.out).mono ?_
  rintro e w1 ⟨rfl, hc1⟩
  have H0 := Lib.hid (hx0.kept hc1 id)
  have H1 := Lib.hid (hx1.kept hc1 id)
  have H2 := Lib.hid (hx2.kept hc1 id)
  have HC1 := Lib.hid (hc0.trans hc1 (fun _ _ h => h))
  clear hc0 hx0 hx1 hx2 hc1
  obtain ⟨A, hA⟩ : ∃ A, (wordsV (sched l)).toArray = A := ⟨_, rfl⟩
  have HAT : Hid (∀ i, i < 64 → A[i]? = some (.int .u32 ((sched l).getD i 0))) := Lib.hid (by
    intro i hi
    have := sched_len l
    rw [← hA]; simp [wordsV, List.getD, show i < (sched l).length by omega])
  have HAS : Hid (A.size = 64) := Lib.hid (by rw [← hA]; simp [wordsV, sched_len])
  rw [arrV, hA]
  clear hA
  go_wp2_with fail
  go_loopw [6, 7, 8, 9, 10, 11, 16] (fun _ _ _ _ _ _ iv wr => ∃ i : Nat, ∃ a b c d e f g h : Int, i ≤ 64 ∧ iv = .int .i64 i ∧ Hid (stN ⟨a0, b0, c0, d0, e0, f0, g0, h0⟩ (sched l) i = ⟨a, b, c, d, e, f, g, h⟩) ∧ Hid (Blk wr w.heap.size 75 #[.int .u32 a0, .int .u32 b0, .int .u32 c0, .int .u32 d0, .int .u32 e0, .int .u32 f0, .int .u32 g0, .int .u32 h0]) ∧ Hid (Blk wr (w.heap.size + 1) 75 #[.int .u32 0, .int .u32 0, .int .u32 0, .int .u32 0, .int .u32 0, .int .u32 0, .int .u32 0, .int .u32 0]) ∧ Hid (Blk wr (w.heap.size + 2) 75 #[.int .u32 a, .int .u32 b, .int .u32 c, .int .u32 d, .int .u32 e, .int .u32 f, .int .u32 g, .int .u32 h]) ∧ Hid (Chg w wr nob)) (fun _ _ _ _ _ _ iv _ => 64 - (intOf iv).toNat)
  case atStart => exact ⟨0, a0, b0, c0, d0, e0, f0, g0, h0, by omega, rfl, Lib.hid rfl, H0, H1, H2, HC1⟩
  case round =>
    obtain ⟨i, a, b, c, d, e, f, g, h, hi, rfl, HS, HB0, HB1, HB2, HCH⟩ := hrel
    by_cases hil : i < 64
    · have hii : (i : Int) < 64 := by omega
      have hi0 : (0 : Int) ≤ (i : Int) := by omega
      have hai := HAT.out i hil
      have has := HAS.out
      have HSS := Lib.hid (stN_succ (s := ⟨a0, b0, c0, d0, e0, f0, g0, h0⟩) (W := sched l) hil (sched_len l))
      obtain ⟨x, hx⟩ : ∃ x, (sched l).getD i 0 = x := ⟨_, rfl⟩
      obtain ⟨k, hk⟩ : ∃ k, roundsL.getD i 0 = k := ⟨_, rfl⟩
      have htb := (HT.out.kept HCH.out id).rounds i k (by rw [← hk]; simp [List.getD, show i < roundsL.length from hil])
      rw [hx] at hai HSS
      rw [hk] at HSS
      have hq := HB2.out
      have q0 := hq.cell 0
      have q1 := hq.cell 1
      have q2 := hq.cell 2
      have q3 := hq.cell 3
      have q4 := hq.cell 4
      have q5 := hq.cell 5
      have q6 := hq.cell 6
      have q7 := hq.cell 7
      simp only [List.getElem?_toArray, List.getElem?_cons_zero, List.getElem?_cons_succ] at q0 q1 q2 q3 q4 q5 q6 q7
      have hix := arr_index wr A i x hil hai
      clear hq hx hk
      go_wp2_with fail
      refine wp_one [1, 3] [] [] [0, 1, 2, 3, 4, 5] rfl (by kernel_rfl) (fun _ _ _ _ _ h => h) ?_; simp only [List.map_cons, List.map_nil, List.getElem?_toArray, List.getElem?_cons_zero, List.getElem?_cons_succ]
      (repeat (first | (apply can0; (· rfl); (· rfl); (· (intro w'; first | (go_simp; with_reducible rfl) | (go_simp; done))); simp only [Act.put, List.setIfInBounds_toArray, List.set_cons_zero, List.set_cons_succ]) | (apply can1; (· rfl); (· rfl); (· (first | (go_simp; with_reducible rfl) | (go_simp; done))); simp only [Act.put, List.setIfInBounds_toArray, List.set_cons_zero, List.set_cons_succ]) | (apply canN; (· rfl); (· rfl); simp only [Act.put, List.setIfInBounds_toArray, List.set_cons_zero, List.set_cons_succ]) | (apply canN1; (· rfl); (· rfl); simp only [Act.put, List.setIfInBounds_toArray, List.set_cons_zero, List.set_cons_succ]) | (apply can0; (· rfl); (· (go_simp; done)); (· (intro w'; first | (go_simp; with_reducible rfl) | (go_simp; done))); simp only [Act.put, List.setIfInBounds_toArray, List.set_cons_zero, List.set_cons_succ]) | (apply can1; (· rfl); (· (go_simp; done)); (· (first | (go_simp; with_reducible rfl) | (go_simp; done))); simp only [Act.put, List.setIfInBounds_toArray, List.set_cons_zero, List.set_cons_succ]) | (apply canN; (· rfl); (· (go_simp; done)); simp only [Act.put, List.setIfInBounds_toArray, List.set_cons_zero, List.set_cons_succ]) | (apply canN1; (· rfl); (· (go_simp; done)); simp only [Act.put, List.setIfInBounds_toArray, List.set_cons_zero, List.set_cons_succ])))
      refine canE ?_
      go_wp2_with fail
      refine wp_one [1, 13, 18, 24] [3, 5, 8] [(3, [1, 13, 18, 24]), (5, [1, 13, 18, 24]), (8, [1, 13, 18, 24])] [0, 1, 2, 4, 7, 11, 12, 13, 14, 15, 16, 17, 18, 19, 20, 22, 23, 24, 26, 3, 5, 6, 8, 9, 10, 21, 25, 27, 28] rfl (by kernel_rfl) (fun _ _ _ _ _ h => h) ?_; simp only [List.map_cons, List.map_nil, List.getElem?_toArray, List.getElem?_cons_zero, List.getElem?_cons_succ]
      (repeat (first | (apply can0; (· rfl); (· rfl); (· (intro w'; first | (go_simp; with_reducible rfl) | (go_simp; done))); simp only [Act.put, List.setIfInBounds_toArray, List.set_cons_zero, List.set_cons_succ]) | (apply can1; (· rfl); (· rfl); (· (first | (go_simp; with_reducible rfl) | (go_simp; done))); simp only [Act.put, List.setIfInBounds_toArray, List.set_cons_zero, List.set_cons_succ]) | (apply canN; (· rfl); (· rfl); simp only [Act.put, List.setIfInBounds_toArray, List.set_cons_zero, List.set_cons_succ]) | (apply canN1; (· rfl); (· rfl); simp only [Act.put, List.setIfInBounds_toArray, List.set_cons_zero, List.set_cons_succ]) | (apply can0; (· rfl); (· (go_simp; done)); (· (intro w'; first | (go_simp; with_reducible rfl) | (go_simp; done))); simp only [Act.put, List.setIfInBounds_toArray, List.set_cons_zero, List.set_cons_succ]) | (apply can1; (· rfl); (· (go_simp; done)); (· (first | (go_simp; with_reducible rfl) | (go_simp; done))); simp only [Act.put, List.setIfInBounds_toArray, List.set_cons_zero, List.set_cons_succ]) | (apply canN; (· rfl); (· (go_simp; done)); simp only [Act.put, List.setIfInBounds_toArray, List.set_cons_zero, List.set_cons_succ]) | (apply canN1; (· rfl); (· (go_simp; done)); simp only [Act.put, List.setIfInBounds_toArray, List.set_cons_zero, List.set_cons_succ])))
      refine canW rfl [1, 13, 18, 24] rfl (fun K hK => ?_)
      go_simp
      go_at_call 48
      refine (right_6 _ _).mono ?_
      rintro e w' ⟨rfl, rfl⟩
      (refine hK _ _ (fun u hu => by (simp only [List.mem_cons, List.not_mem_nil, or_false] at hu); (first | (subst hu; exact reRun_mk rfl (by first | (go_simp; with_reducible rfl) | (go_simp; done)) (holds_at rfl)) | ((repeat' (first | (rcases hu with rfl | hu) | (subst hu))) <;> exact reRun_mk rfl (by first | (go_simp; with_reducible rfl) | (go_simp; done)) (holds_at rfl)))) ?_; clear hK K; try simp only [Act.put, List.setIfInBounds_toArray, List.set_cons_zero, List.set_cons_succ])
      (repeat (first | (apply can0; (· rfl); (· rfl); (· (intro w'; first | (go_simp; with_reducible rfl) | (go_simp; done))); simp only [Act.put, List.setIfInBounds_toArray, List.set_cons_zero, List.set_cons_succ]) | (apply can1; (· rfl); (· rfl); (· (first | (go_simp; with_reducible rfl) | (go_simp; done))); simp only [Act.put, List.setIfInBounds_toArray, List.set_cons_zero, List.set_cons_succ]) | (apply canN; (· rfl); (· rfl); simp only [Act.put, List.setIfInBounds_toArray, List.set_cons_zero, List.set_cons_succ]) | (apply canN1; (· rfl); (· rfl); simp only [Act.put, List.setIfInBounds_toArray, List.set_cons_zero, List.set_cons_succ]) | (apply can0; (· rfl); (· (go_simp; done)); (· (intro w'; first | (go_simp; with_reducible rfl) | (go_simp; done))); simp only [Act.put, List.setIfInBounds_toArray, List.set_cons_zero, List.set_cons_succ]) | (apply can1; (· rfl); (· (go_simp; done)); (· (first | (go_simp; with_reducible rfl) | (go_simp; done))); simp only [Act.put, List.setIfInBounds_toArray, List.set_cons_zero, List.set_cons_succ]) | (apply canN; (· rfl); (· (go_simp; done)); simp only [Act.put, List.setIfInBounds_toArray, List.set_cons_zero, List.set_cons_succ]) | (apply canN1; (· rfl); (· (go_simp; done)); simp only [Act.put, List.setIfInBounds_toArray, List.set_cons_zero, List.set_cons_succ])))
      refine canW rfl [1, 13, 18, 24] rfl (fun K hK => ?_)
      go_simp
      go_at_call 48
      refine (right_11 _ _).mono ?_
      rintro e w' ⟨rfl, rfl⟩
      (refine hK _ _ (fun u hu => by (simp only [List.mem_cons, List.not_mem_nil, or_false] at hu); (first | (subst hu; exact reRun_mk rfl (by first | (go_simp; with_reducible rfl) | (go_simp; done)) (holds_at rfl)) | ((repeat' (first | (rcases hu with rfl | hu) | (subst hu))) <;> exact reRun_mk rfl (by first | (go_simp; with_reducible rfl) | (go_simp; done)) (holds_at rfl)))) ?_; clear hK K; try simp only [Act.put, List.setIfInBounds_toArray, List.set_cons_zero, List.set_cons_succ])
      (repeat (first | (apply can0; (· rfl); (· rfl); (· (intro w'; first | (go_simp; with_reducible rfl) | (go_simp; done))); simp only [Act.put, List.setIfInBounds_toArray, List.set_cons_zero, List.set_cons_succ]) | (apply can1; (· rfl); (· rfl); (· (first | (go_simp; with_reducible rfl) | (go_simp; done))); simp only [Act.put, List.setIfInBounds_toArray, List.set_cons_zero, List.set_cons_succ]) | (apply canN; (· rfl); (· rfl); simp only [Act.put, List.setIfInBounds_toArray, List.set_cons_zero, List.set_cons_succ]) | (apply canN1; (· rfl); (· rfl); simp only [Act.put, List.setIfInBounds_toArray, List.set_cons_zero, List.set_cons_succ]) | (apply can0; (· rfl); (· (go_simp; done)); (· (intro w'; first | (go_simp; with_reducible rfl) | (go_simp; done))); simp only [Act.put, List.setIfInBounds_toArray, List.set_cons_zero, List.set_cons_succ]) | (apply can1; (· rfl); (· (go_simp; done)); (· (first | (go_simp; with_reducible rfl) | (go_simp; done))); simp only [Act.put, List.setIfInBounds_toArray, List.set_cons_zero, List.set_cons_succ]) | (apply canN; (· rfl); (· (go_simp; done)); simp only [Act.put, List.setIfInBounds_toArray, List.set_cons_zero, List.set_cons_succ]) | (apply canN1; (· rfl); (· (go_simp; done)); simp only [Act.put, List.setIfInBounds_toArray, List.set_cons_zero, List.set_cons_succ])))
      refine canW rfl [1, 13, 18, 24] rfl (fun K hK => ?_)
      go_simp
      go_at_call 48
      refine (right_25 _ _).mono ?_
      rintro e w' ⟨rfl, rfl⟩
      (refine hK _ _ (fun u hu => by (simp only [List.mem_cons, List.not_mem_nil, or_false] at hu); (first | (subst hu; exact reRun_mk rfl (by first | (go_simp; with_reducible rfl) | (go_simp; done)) (holds_at rfl)) | ((repeat' (first | (rcases hu with rfl | hu) | (subst hu))) <;> exact reRun_mk rfl (by first | (go_simp; with_reducible rfl) | (go_simp; done)) (holds_at rfl)))) ?_; clear hK K; try simp only [Act.put, List.setIfInBounds_toArray, List.set_cons_zero, List.set_cons_succ])
      (repeat (first | (apply can0; (· rfl); (· rfl); (· (intro w'; first | (go_simp; with_reducible rfl) | (go_simp; done))); simp only [Act.put, List.setIfInBounds_toArray, List.set_cons_zero, List.set_cons_succ]) | (apply can1; (· rfl); (· rfl); (· (first | (go_simp; with_reducible rfl) | (go_simp; done))); simp only [Act.put, List.setIfInBounds_toArray, List.set_cons_zero, List.set_cons_succ]) | (apply canN; (· rfl); (· rfl); simp only [Act.put, List.setIfInBounds_toArray, List.set_cons_zero, List.set_cons_succ]) | (apply canN1; (· rfl); (· rfl); simp only [Act.put, List.setIfInBounds_toArray, List.set_cons_zero, List.set_cons_succ]) | (apply can0; (· rfl); (· (go_simp; done)); (· (intro w'; first | (go_simp; with_reducible rfl) | (go_simp; done))); simp only [Act.put, List.setIfInBounds_toArray, List.set_cons_zero, List.set_cons_succ]) | (apply can1; (· rfl); (· (go_simp; done)); (· (first | (go_simp; with_reducible rfl) | (go_simp; done))); simp only [Act.put, List.setIfInBounds_toArray, List.set_cons_zero, List.set_cons_succ]) | (apply canN; (· rfl); (· (go_simp; done)); simp only [Act.put, List.setIfInBounds_toArray, List.set_cons_zero, List.set_cons_succ]) | (apply canN1; (· rfl); (· (go_simp; done)); simp only [Act.put, List.setIfInBounds_toArray, List.set_cons_zero, List.set_cons_succ])))
      rw [show (if IntKind.u32.signed = true then (-1 : Int) else IntKind.u32.max) = 4294967295 from by decide]
      obtain ⟨one, hone⟩ : ∃ o, IntKind.u32.wrap (IntKind.u32.wrap (IntKind.u32.wrap (IntKind.u32.wrap (h + bits .xor .u32 (bits .xor .u32 (rotR e 6) (rotR e 11)) (rotR e 25)) + bits .xor .u32 (bits .and .u32 e f) (bits .and .u32 (bits .xor .u32 4294967295 e) g)) + k) + x) = o := ⟨_, rfl⟩
      rw [hone]
      refine canE ?_
      go_wp2_with fail
      refine wp_one [10, 14, 18, 20] [1, 3, 6] [(1, [10, 14, 18, 20]), (3, [10, 14, 18, 20]), (6, [10, 14, 18, 20])] [0, 2, 5, 8, 9, 10, 11, 12, 13, 14, 15, 16, 17, 18, 19, 20, 21, 22, 1, 3, 4, 6, 7, 23, 24] rfl (by kernel_rfl) (fun _ _ _ _ _ h => h) ?_; simp only [List.map_cons, List.map_nil, List.getElem?_toArray, List.getElem?_cons_zero, List.getElem?_cons_succ]
      (repeat (first | (apply can0; (· rfl); (· rfl); (· (intro w'; first | (go_simp; with_reducible rfl) | (go_simp; done))); simp only [Act.put, List.setIfInBounds_toArray, List.set_cons_zero, List.set_cons_succ]) | (apply can1; (· rfl); (· rfl); (· (first | (go_simp; with_reducible rfl) | (go_simp; done))); simp only [Act.put, List.setIfInBounds_toArray, List.set_cons_zero, List.set_cons_succ]) | (apply canN; (· rfl); (· rfl); simp only [Act.put, List.setIfInBounds_toArray, List.set_cons_zero, List.set_cons_succ]) | (apply canN1; (· rfl); (· rfl); simp only [Act.put, List.setIfInBounds_toArray, List.set_cons_zero, List.set_cons_succ]) | (apply can0; (· rfl); (· (go_simp; done)); (· (intro w'; first | (go_simp; with_reducible rfl) | (go_simp; done))); simp only [Act.put, List.setIfInBounds_toArray, List.set_cons_zero, List.set_cons_succ]) | (apply can1; (· rfl); (· (go_simp; done)); (· (first | (go_simp; with_reducible rfl) | (go_simp; done))); simp only [Act.put, List.setIfInBounds_toArray, List.set_cons_zero, List.set_cons_succ]) | (apply canN; (· rfl); (· (go_simp; done)); simp only [Act.put, List.setIfInBounds_toArray, List.set_cons_zero, List.set_cons_succ]) | (apply canN1; (· rfl); (· (go_simp; done)); simp only [Act.put, List.setIfInBounds_toArray, List.set_cons_zero, List.set_cons_succ])))
      refine canW rfl [10, 14, 18, 20] rfl (fun K hK => ?_)
      go_simp
      go_at_call 48
      refine (right_2 _ _).mono ?_
      rintro e w' ⟨rfl, rfl⟩
      (refine hK _ _ (fun u hu => by (simp only [List.mem_cons, List.not_mem_nil, or_false] at hu); (first | (subst hu; exact reRun_mk rfl (by first | (go_simp; with_reducible rfl) | (go_simp; done)) (holds_at rfl)) | ((repeat' (first | (rcases hu with rfl | hu) | (subst hu))) <;> exact reRun_mk rfl (by first | (go_simp; with_reducible rfl) | (go_simp; done)) (holds_at rfl)))) ?_; clear hK K; try simp only [Act.put, List.setIfInBounds_toArray, List.set_cons_zero, List.set_cons_succ])
      (repeat (first | (apply can0; (· rfl); (· rfl); (· (intro w'; first | (go_simp; with_reducible rfl) | (go_simp; done))); simp only [Act.put, List.setIfInBounds_toArray, List.set_cons_zero, List.set_cons_succ]) | (apply can1; (· rfl); (· rfl); (· (first | (go_simp; with_reducible rfl) | (go_simp; done))); simp only [Act.put, List.setIfInBounds_toArray, List.set_cons_zero, List.set_cons_succ]) | (apply canN; (· rfl); (· rfl); simp only [Act.put, List.setIfInBounds_toArray, List.set_cons_zero, List.set_cons_succ]) | (apply canN1; (· rfl); (· rfl); simp only [Act.put, List.setIfInBounds_toArray, List.set_cons_zero, List.set_cons_succ]) | (apply can0; (· rfl); (· (go_simp; done)); (· (intro w'; first | (go_simp; with_reducible rfl) | (go_simp; done))); simp only [Act.put, List.setIfInBounds_toArray, List.set_cons_zero, List.set_cons_succ]) | (apply can1; (· rfl); (· (go_simp; done)); (· (first | (go_simp; with_reducible rfl) | (go_simp; done))); simp only [Act.put, List.setIfInBounds_toArray, List.set_cons_zero, List.set_cons_succ]) | (apply canN; (· rfl); (· (go_simp; done)); simp only [Act.put, List.setIfInBounds_toArray, List.set_cons_zero, List.set_cons_succ]) | (apply canN1; (· rfl); (· (go_simp; done)); simp only [Act.put, List.setIfInBounds_toArray, List.set_cons_zero, List.set_cons_succ])))
      refine canW rfl [10, 14, 18, 20] rfl (fun K hK => ?_)
      go_simp
      go_at_call 48
      refine (right_13 _ _).mono ?_
      rintro e w' ⟨rfl, rfl⟩
      (refine hK _ _ (fun u hu => by (simp only [List.mem_cons, List.not_mem_nil, or_false] at hu); (first | (subst hu; exact reRun_mk rfl (by first | (go_simp; with_reducible rfl) | (go_simp; done)) (holds_at rfl)) | ((repeat' (first | (rcases hu with rfl | hu) | (subst hu))) <;> exact reRun_mk rfl (by first | (go_simp; with_reducible rfl) | (go_simp; done)) (holds_at rfl)))) ?_; clear hK K; try simp only [Act.put, List.setIfInBounds_toArray, List.set_cons_zero, List.set_cons_succ])
      (repeat (first | (apply can0; (· rfl); (· rfl); (· (intro w'; first | (go_simp; with_reducible rfl) | (go_simp; done))); simp only [Act.put, List.setIfInBounds_toArray, List.set_cons_zero, List.set_cons_succ]) | (apply can1; (· rfl); (· rfl); (· (first | (go_simp; with_reducible rfl) | (go_simp; done))); simp only [Act.put, List.setIfInBounds_toArray, List.set_cons_zero, List.set_cons_succ]) | (apply canN; (· rfl); (· rfl); simp only [Act.put, List.setIfInBounds_toArray, List.set_cons_zero, List.set_cons_succ]) | (apply canN1; (· rfl); (· rfl); simp only [Act.put, List.setIfInBounds_toArray, List.set_cons_zero, List.set_cons_succ]) | (apply can0; (· rfl); (· (go_simp; done)); (· (intro w'; first | (go_simp; with_reducible rfl) | (go_simp; done))); simp only [Act.put, List.setIfInBounds_toArray, List.set_cons_zero, List.set_cons_succ]) | (apply can1; (· rfl); (· (go_simp; done)); (· (first | (go_simp; with_reducible rfl) | (go_simp; done))); simp only [Act.put, List.setIfInBounds_toArray, List.set_cons_zero, List.set_cons_succ]) | (apply canN; (· rfl); (· (go_simp; done)); simp only [Act.put, List.setIfInBounds_toArray, List.set_cons_zero, List.set_cons_succ]) | (apply canN1; (· rfl); (· (go_simp; done)); simp only [Act.put, List.setIfInBounds_toArray, List.set_cons_zero, List.set_cons_succ])))
      refine canW rfl [10, 14, 18, 20] rfl (fun K hK => ?_)
      go_simp
      go_at_call 48
      refine (right_22 _ _).mono ?_
      rintro e w' ⟨rfl, rfl⟩
      (refine hK _ _ (fun u hu => by (simp only [List.mem_cons, List.not_mem_nil, or_false] at hu); (first | (subst hu; exact reRun_mk rfl (by first | (go_simp; with_reducible rfl) | (go_simp; done)) (holds_at rfl)) | ((repeat' (first | (rcases hu with rfl | hu) | (subst hu))) <;> exact reRun_mk rfl (by first | (go_simp; with_reducible rfl) | (go_simp; done)) (holds_at rfl)))) ?_; clear hK K; try simp only [Act.put, List.setIfInBounds_toArray, List.set_cons_zero, List.set_cons_succ])
      (repeat (first | (apply can0; (· rfl); (· rfl); (· (intro w'; first | (go_simp; with_reducible rfl) | (go_simp; done))); simp only [Act.put, List.setIfInBounds_toArray, List.set_cons_zero, List.set_cons_succ]) | (apply can1; (· rfl); (· rfl); (· (first | (go_simp; with_reducible rfl) | (go_simp; done))); simp only [Act.put, List.setIfInBounds_toArray, List.set_cons_zero, List.set_cons_succ]) | (apply canN; (· rfl); (· rfl); simp only [Act.put, List.setIfInBounds_toArray, List.set_cons_zero, List.set_cons_succ]) | (apply canN1; (· rfl); (· rfl); simp only [Act.put, List.setIfInBounds_toArray, List.set_cons_zero, List.set_cons_succ]) | (apply can0; (· rfl); (· (go_simp; done)); (· (intro w'; first | (go_simp; with_reducible rfl) | (go_simp; done))); simp only [Act.put, List.setIfInBounds_toArray, List.set_cons_zero, List.set_cons_succ]) | (apply can1; (· rfl); (· (go_simp; done)); (· (first | (go_simp; with_reducible rfl) | (go_simp; done))); simp only [Act.put, List.setIfInBounds_toArray, List.set_cons_zero, List.set_cons_succ]) | (apply canN; (· rfl); (· (go_simp; done)); simp only [Act.put, List.setIfInBounds_toArray, List.set_cons_zero, List.set_cons_succ]) | (apply canN1; (· rfl); (· (go_simp; done)); simp only [Act.put, List.setIfInBounds_toArray, List.set_cons_zero, List.set_cons_succ])))
      obtain ⟨two, htwo⟩ : ∃ o, IntKind.u32.wrap (bits .xor .u32 (bits .xor .u32 (rotR a 2) (rotR a 13)) (rotR a 22) + bits .xor .u32 (bits .xor .u32 (bits .and .u32 a b) (bits .and .u32 a c)) (bits .and .u32 b c)) = o := ⟨_, rfl⟩
      rw [htwo]
      refine canE ?_
      obtain ⟨n0, hn0⟩ : ∃ o, IntKind.u32.wrap (one + two) = o := ⟨_, rfl⟩
      obtain ⟨n4, hn4⟩ : ∃ o, IntKind.u32.wrap (d + one) = o := ⟨_, rfl⟩
      have hsz : (Tryd.prog.info? 75).map (·.size) = some 8 := by kernel_rfl
      have f0 := HB2.out.free 0
      have f1 := HB2.out.free 1
      have f2 := HB2.out.free 2
      have f3 := HB2.out.free 3
      have f4 := HB2.out.free 4
      have f5 := HB2.out.free 5
      have f6 := HB2.out.free 6
      have f7 := HB2.out.free 7
      clear htb hai hix
      go_wp2_with fail
      go_roundw
      case rel =>
        refine ⟨i + 1, n0, a, b, c, n4, e, f, g, by omega, by go_num, Lib.hid ?_, Lib.hid (Blk.drew (Blk.drew (Blk.drew (HB0.out.otherCells (t := w.heap.size + 2) (by omega) [.int .u32 n0, .int .u32 a, .int .u32 b, .int .u32 c, .int .u32 n4, .int .u32 e, .int .u32 f, .int .u32 g] 0)))),
          Lib.hid (Blk.drew (Blk.drew (Blk.drew (HB1.out.otherCells (t := w.heap.size + 2) (by omega) [.int .u32 n0, .int .u32 a, .int .u32 b, .int .u32 c, .int .u32 n4, .int .u32 e, .int .u32 f, .int .u32 g] 0)))),
          Lib.hid (Blk.drew (Blk.drew (Blk.drew (HB2.out.laid [.int .u32 n0, .int .u32 a, .int .u32 b, .int .u32 c, .int .u32 n4, .int .u32 e, .int .u32 f, .int .u32 g] rfl)))),
          Lib.hid (Chg.drew (Chg.drew (Chg.drew (Chg.setCells (b := w.heap.size + 2) (.inr (by omega)) [.int .u32 n0, .int .u32 a, .int .u32 b, .int .u32 c, .int .u32 n4, .int .u32 e, .int .u32 f, .int .u32 g] 0 HCH.out))))⟩
        rw [HSS.out, HS.out, ← hn0, ← hn4, ← htwo, ← hone]
        rfl
      case measure => simp [intOf]; omega
    · obtain rfl : i = 64 := by omega
      have HSE : Hid (rndsF ⟨a0, b0, c0, d0, e0, f0, g0, h0⟩ roundsL (sched l) = ⟨a, b, c, d, e, f, g, h⟩) := Lib.hid (by rw [← stN_end (sched_len l)]; exact HS.out)
      clear HS H0 H1 H2 HC1 HAT HAS
      go_wp2_with fail
      rw [show ((64 : Nat) : Int) = 64 from rfl]
      obtain ⟨P, hP⟩ : ∃ P, P = S8.l ⟨a0, b0, c0, d0, e0, f0, g0, h0⟩ := ⟨_, rfl⟩
      obtain ⟨Q, hQ⟩ : ∃ Q, Q = S8.l ⟨a, b, c, d, e, f, g, h⟩ := ⟨_, rfl⟩
      have hPl : P.length = 8 := by rw [hP]; rfl
      have hQl : Q.length = 8 := by rw [hQ]; rfl
      have HP0 : Hid (Blk wr w.heap.size 75 (wordsV (addN P Q 0)).toArray) := Lib.hid (by rw [addN_zero, hP]; exact HB0.out)
      have HP2 : Hid (Blk wr (w.heap.size + 2) 75 (wordsV Q).toArray) := Lib.hid (by rw [hQ]; exact HB2.out)
      clear HB0 HB2
      go_loopw [12, 97] (fun _ iv wr => ∃ i : Nat, i ≤ 8 ∧ iv = .int .i64 i ∧ Hid (Blk wr w.heap.size 75 (wordsV (addN P Q i)).toArray) ∧ Hid (Blk wr (w.heap.size + 1) 75 #[.int .u32 0, .int .u32 0, .int .u32 0, .int .u32 0, .int .u32 0, .int .u32 0, .int .u32 0, .int .u32 0]) ∧ Hid (Blk wr (w.heap.size + 2) 75 (wordsV Q).toArray) ∧ Hid (Chg w wr nob)) (fun _ iv _ => 8 - (intOf iv).toNat)
      case atStart => exact ⟨0, by omega, rfl, HP0, HB1, HP2, HCH⟩
      case round =>
        obtain ⟨i, hi, rfl, HB0, HB1, HB2, HC2⟩ := hrel
        clear HP0 HP2 HCH
        by_cases hil : i < 8
        · have hii : (i : Int) < 8 := by omega
          have hi0 : (0 : Int) ≤ (i : Int) := by omega
          have hp := words_cell HB0.out (addN_at (P := P) (Q := Q) (by omega) (by omega))
          have hq := words_cell HB2.out (j := i) (x := Q.getD i 0) (by simp [List.getD, show i < Q.length by omega])
          have hf := HB0.out.free i
          have hst := words_set HB0.out i (wu (P.getD i 0 + Q.getD i 0))
          rw [addN_set (by omega) (by omega)] at hst
          have HST := Lib.hid hst
          obtain ⟨x, hx⟩ : ∃ x, P.getD i 0 = x := ⟨_, rfl⟩
          obtain ⟨y, hy⟩ : ∃ y, Q.getD i 0 = y := ⟨_, rfl⟩
          rw [hx] at hp HST
          rw [hy] at hq HST
          clear hst hx hy
          go_wp2_with fail
          refine wp_one [2, 5] [8] [] [0, 1, 2, 3, 4, 5, 6, 7, 8] rfl (by kernel_rfl) (fun _ _ _ _ _ h => h) ?_; simp only [List.map_cons, List.map_nil, List.getElem?_toArray, List.getElem?_cons_zero, List.getElem?_cons_succ]
          (repeat (first | (apply can0; (· rfl); (· rfl); (· (intro w'; first | (go_simp; with_reducible rfl) | (go_simp; done))); simp only [Act.put, List.setIfInBounds_toArray, List.set_cons_zero, List.set_cons_succ]) | (apply can1; (· rfl); (· rfl); (· (first | (go_simp; with_reducible rfl) | (go_simp; done))); simp only [Act.put, List.setIfInBounds_toArray, List.set_cons_zero, List.set_cons_succ]) | (apply canN; (· rfl); (· rfl); simp only [Act.put, List.setIfInBounds_toArray, List.set_cons_zero, List.set_cons_succ]) | (apply canN1; (· rfl); (· rfl); simp only [Act.put, List.setIfInBounds_toArray, List.set_cons_zero, List.set_cons_succ]) | (apply can0; (· rfl); (· (go_simp; done)); (· (intro w'; first | (go_simp; with_reducible rfl) | (go_simp; done))); simp only [Act.put, List.setIfInBounds_toArray, List.set_cons_zero, List.set_cons_succ]) | (apply can1; (· rfl); (· (go_simp; done)); (· (first | (go_simp; with_reducible rfl) | (go_simp; done))); simp only [Act.put, List.setIfInBounds_toArray, List.set_cons_zero, List.set_cons_succ]) | (apply canN; (· rfl); (· (go_simp; done)); simp only [Act.put, List.setIfInBounds_toArray, List.set_cons_zero, List.set_cons_succ]) | (apply canN1; (· rfl); (· (go_simp; done)); simp only [Act.put, List.setIfInBounds_toArray, List.set_cons_zero, List.set_cons_succ])))
          refine canW rfl [] rfl (fun K hK => ?_)
          go_simp
          (refine hK _ _ (fun u hu => by cases hu) ?_; clear hK K; try simp only [Act.put, List.setIfInBounds_toArray, List.set_cons_zero, List.set_cons_succ])
          refine canE ?_
          go_wp2
          go_roundw
          case rel => exact ⟨i + 1, by omega, by go_num, Lib.hid (Blk.drew HST.out), Lib.hid (Blk.drew (HB1.out.other (by simp) _)), Lib.hid (Blk.drew (HB2.out.other (by simp) _)), Lib.hid (HC2.out.setCell (.inr (by simp)) _).drew⟩
          case measure => simp [intOf]; omega
        · obtain rfl : i = 8 := by omega
          obtain ⟨A, hA⟩ : ∃ A, (wordsV (addN P Q 8)).toArray = A := ⟨_, rfl⟩
          have HAV : Hid ((mixF ⟨a0, b0, c0, d0, e0, f0, g0, h0⟩ l).val = .agg A) := Lib.hid (by rw [← hA, hP, hQ, mixF, HSE.out]; rfl)
          have hAs : A.size = 8 := by rw [← hA, hP, hQ]; rfl
          have hA1 : A.all (·.oneCell') = true := by rw [← hA]; exact words_one _
          rw [hA] at HB0
          clear hA hP hQ hPl hQl HSE
          have hsz : (Tryd.prog.info? 75).map (·.size) = some A.size := by rw [hAs]; kernel_rfl
          have hun : Tryd.prog.underlying 75 = some (.array 8 72) := by kernel_rfl
          go_wp2_with (first | refine wpList_load_row rfl 75 _ rfl w.heap.size rfl 75 A (0, 0) _ HB0.out hun rfl hsz ?_ | refine wpList_store_row rfl 75 _ _ rfl (w.heap.size + 1) A rfl rfl 75 _ HB1.out hsz hAs.symm hA1 ?_)
          refine bodyPost_ret (results_cell_row rfl _ _ (w.heap.size + 1) 75 A (0, 0) _ rfl (Blk.setRow HB1.out A) hun rfl hsz) rfl ?_
          exact ⟨by rw [HAV.out], HC2.out.setRow (.inr (by omega)) A⟩
end Go.Proofs.YtcgdmidjejmjhaaDoor
