/-
  Chapter 3: Encode.
-/
import Derived.Test.YtfcgjnmbbgioiaaUtf6
import Derived.Deep.DeepCutAuto
import Derived.Deep.CutBlock
namespace Go.Proofs.Ytfcgjnmbbgioiaa
open Go.RowKit
set_option linter.unusedVariables false
set_option linter.unusedSimpArgs false

theorem wr_i64_m1 : IntKind.i64.wrap (-1) = -1 := by decide
theorem wr_i64_0 : IntKind.i64.wrap 0 = 0 := by decide
theorem wr_i64_1 : IntKind.i64.wrap 1 = 1 := by decide
theorem wr_i64_2 : IntKind.i64.wrap 2 = 2 := by decide
theorem wr_i64_3 : IntKind.i64.wrap 3 = 3 := by decide
theorem wr_i64_6 : IntKind.i64.wrap 6 = 6 := by decide
theorem wr_i64_12 : IntKind.i64.wrap 12 = 12 := by decide
theorem wr_i64_18 : IntKind.i64.wrap 18 = 18 := by decide
theorem wr_u8_960 : IntKind.u8.wrap 960 = 192 := by decide
theorem wr_u8_480 : IntKind.u8.wrap 480 = 224 := by decide
theorem wr_u8_240 : IntKind.u8.wrap 240 = 240 := by decide
attribute [local go_sem] wr_i64_m1 wr_i64_0 wr_i64_1 wr_i64_2 wr_i64_3 wr_i64_6 wr_i64_12 wr_i64_18 wr_u8_960 wr_u8_480 wr_u8_240

/-- The sign that is written for a number. -/
def fixR (r : Int) : Int := if isSign r then r else 65533
/-- Its bytes. -/
def encS (s : Int) : List Int :=
  if s < 128 then [s] else if s < 2048 then [192 + s / 64, 128 + s % 64] else if s < 65536 then [224 + s / 4096, 128 + s / 64 % 64, 128 + s % 64]
  else [240 + s / 262144, 128 + s / 4096 % 64, 128 + s / 64 % 64, 128 + s % 64]
def encR (r : Int) : List Int := encS (fixR r)
def encL (l : List Int) : List Int := l.flatMap encR
theorem fixR_sign (r : Int) : isSign (fixR r) = true := by
  unfold fixR; split
  · assumption
  · decide
theorem sizeR_fix (r : Int) : sizeR r = sizeR (fixR r) := by
  unfold fixR; split
  · rfl
  · unfold sizeR; simp [*]
theorem isSign_b {s : Int} (h : isSign s = true) : 0 ≤ s ∧ s ≤ 1114111 ∧ ¬ (55296 ≤ s ∧ s ≤ 57343) := by simp [isSign] at h; omega
theorem encS_len {s : Int} (h : isSign s = true) : ((encS s).length : Int) = sizeR s := by
  unfold encS sizeR; rw [if_pos h]; (repeat' split) <;> simp
theorem encS_le (s : Int) : 1 ≤ (encS s).length ∧ (encS s).length ≤ 4 := by
  unfold encS; (repeat' split) <;> simp
theorem encL_len (l : List Int) : (encL l).length ≤ 4 * l.length := by
  induction l with
  | nil => simp [encL]
  | cons a t ih => have := (encS_le (fixR a)).2; simp only [encL, List.flatMap_cons, List.length_append, List.length_cons, encR] at *; omega
theorem encL_snoc (l : List Int) (r : Int) : encL (l ++ [r]) = encL l ++ encR r := by simp [encL]

/-- Bytes of the call's own. -/
def Bx (w wr : World) (v : Value) (L : List Int) : Prop := Own wr 5 1 v L.length (bytesV L) ∧ Chg w wr nob ∧ ∀ k, blkOf v k → w.heap.size ≤ k
theorem Bx.drew {w wr : World} {v : Value} {L : List Int} (h : Bx w wr v L) : Bx w wr.drew v L := ⟨World.ownsRow.drew h.1, h.2.1.drew, h.2.2⟩
theorem Bx.push {w wr w1 : World} {v v1 : Value} {L : List Int} {x : Int} {u : Value} {n : Nat} (h : Bx w wr v L) (ho : Own w1 5 1 v1 n (bytesV L ++ [u])) (hc : Chg wr w1 (blkOf v)) (hf : ∀ k, blkOf v1 k → blkOf v k ∨ wr.heap.size ≤ k) (hu : u = .int .u8 x) (hn : n = L.length + 1) : ∃ L', Bx w w1 v1 L' ∧ Hid (L' = L ++ [x]) ∧ L'.length ≤ L.length + 1 := by
  subst hu hn
  refine ⟨_, ⟨by simpa [bytesV] using ho, h.2.1.trans hc (fun i hi hb => by have := h.2.2 i hb; omega), fun k hk => ?_⟩, rfl, by simp⟩
  rcases hf k hk with h1 | h1
  · exact h.2.2 k h1
  · exact Nat.le_trans h.2.1.size h1

set_option maxRecDepth 100000 in
set_option maxHeartbeats 8000000 in
theorem encode_any (w : World) (va : Value) (l : List Int) (ha : Rd w 1 va l.length (runesV l)) (hb : ∀ x ∈ l, -2147483648 ≤ x ∧ x ≤ 2147483647) (hl : l.length ≤ 1000000) :
    Calls Try.prog 20 #[va] w fun e w' => ∃ v, e = .returned v ∧ Own w' 5 1 v (encL l).length (bytesV (encL l)) ∧ Chg w w' nob ∧ ∀ k, blkOf v k → w.heap.size ≤ k := by
  obtain ⟨a1, c1, rfl, hn1, _, hx1⟩ := ha
  have HC := Lib.hid hx1
  have HB := Lib.hid hb
  clear hx1 hb
  go_enter Try.func20, Try.ntmps20
  go_wp2
  go_loopw [3, 11] (fun v i wr => ∃ k : Nat, k ≤ l.length ∧ i = .int .i64 k ∧ Hid (Bx w wr v (encL (l.take k)))) (fun _ i _ => l.length - (intOf i).toNat)
  case atStart => exact ⟨0, Nat.zero_le _, rfl, ⟨World.ownsRow_nil w 0 5 1, Chg.refl _ _, fun k hk => by cases hk⟩⟩
  case round =>
    obtain ⟨k, hk, rfl, HI⟩ := hrel
    by_cases hkl : k < l.length
    · have hki : (k : Int) < (l.length : Int) := by omega
      obtain ⟨g, o, rfl, hcx⟩ := HC.out k (.int .i32 (l.getD k 0)) (by simp [runesV, List.getD, hkl])
      have hcr := HI.out.2.1.cell hcx id
      have hsn : encL (l.take (k + 1)) = encL (l.take k) ++ encS (fixR (l.getD k 0)) := by rw [take_snoc hkl (0 : Int), encL_snoc]; rfl
      have hrb := HB.out (l.getD k 0) (by simp [List.getD, hkl])
      have hle := encL_len (l.take k)
      rw [List.length_take] at hle
      generalize l.getD k 0 = r at *
      have HSN := Lib.hid hsn
      clear hsn hcx
      generalize encL (l.take k) = L at *
      go_wp2_with fail
      go_at_call 17
      refine (size_any wr r).mono ?_
      rintro e w' ⟨rfl, rfl⟩
      have HZ : Hid (sizeR r = sizeR (fixR r)) := Lib.hid (sizeR_fix r)
      obtain ⟨z, hz⟩ : ∃ z, sizeR r = z := ⟨_, rfl⟩
      rw [hz] at HZ ⊢
      clear hz
      go_upto_region 6 with (fail)
      go_cut [30] (fun c wx => ∃ bb, c = .bool bb ∧ Hid (isSign r = !bb) ∧ wx = w')
      case first =>
        rcases (show r < 0 ∨ 1114111 < r ∨ (55296 ≤ r ∧ r ≤ 57343) ∨ (0 ≤ r ∧ r < 55296) ∨ (57343 < r ∧ r ≤ 1114111) by omega) with h | h | ⟨h, h'⟩ | ⟨h, h'⟩ | ⟨h, h'⟩
        all_goals go_wp2
        all_goals go_meet
        all_goals (refine ⟨!isSign r, ?_, Lib.hid (by simp), rfl⟩; congr 1; rw [Bool.eq_iff_iff]; simp [isSign]; omega)
      case rest =>
      obtain ⟨bb, rfl, HBB, rfl⟩ := hcut
      go_upto_if 30 with (fail)
      go_cut [5] (fun v wx => v = .int .i32 (fixR r) ∧ wx = wc)
      case first =>
        cases bb
        · have hf : fixR r = r := by unfold fixR; rw [if_pos (by rw [HBB.out]; rfl)]
          go_wp2
          go_meet
          exact ⟨by rw [hf], rfl⟩
        · have hf : fixR r = 65533 := by unfold fixR; rw [if_neg (by rw [HBB.out]; simp)]
          go_wp2
          go_meet
          exact ⟨by rw [hf], rfl⟩
      case rest =>
        obtain ⟨rfl, rfl⟩ := hcut
        have hsg := fixR_sign r
        generalize fixR r = s at *
        have hz := HZ.out
        unfold sizeR at hz
        rw [if_pos hsg] at hz
        obtain ⟨b1, b2, b3⟩ := isSign_b hsg
        have hE : Hid (encS s = encS s) := rfl
        clear HZ hsg
        by_cases s1 : s < 128
        · clear hE
          have hzn : z = 1 := by rw [hz]; rw [if_pos s1]
          subst hzn
          clear hz
          have hbx0 := HI.out
          clear hcr HI
          obtain ⟨ao, co, rfl, hLc, _⟩ := hbx0.1.form
          go_wp2_with (at_builtin; refine wpList_push rfl (.tmp 45) (.tmp 47) 22 rfl 5 (.int .u8 0) 1 1 i_byte u_bytes rfl (by decide) _ _ _ rfl hbx0.1 1 1 rfl rfl rfl (by unfold maxLen; omega) (by omega) ?_)
          intro v1 w1 ho hch hfo
          obtain ⟨L1, hbx1, HL1, hll1⟩ := hbx0.push ho hch hfo rfl rfl
          clear ho hch hfo hbx0
          obtain ⟨ao1, co1, rfl, hLc1, _⟩ := hbx1.1.form
          go_wp2
          refine wp_loop_rounds 1 ?_
          rw [rounds_succ]
          go_wp2
          go_roundw
          case rel =>
            refine ⟨k + 1, by omega, by go_num, ?_⟩
            unfold Hid
            rw [HSN.out]
            have hL : L ++ encS s = L1 := by unfold encS; rw [if_pos (by omega)]; rw [HL1.out]; try simp
            rw [hL]
            exact hbx1
          case measure => simp [intOf]; omega
        · by_cases s2 : s < 2048
          · clear hE
            have hzn : z = 2 := by rw [hz]; rw [if_neg s1, if_pos s2]
            subst hzn
            clear hz
            go_wp2_with fail
            refine wp_one [] [8] [] [0, 1, 2, 3, 4, 5, 6, 7, 8, 9, 10] rfl (by kernel_rfl) (fun _ _ _ _ _ h => h) ?_; simp only [List.map_cons, List.map_nil, List.getElem?_toArray, List.getElem?_cons_zero, List.getElem?_cons_succ]
            (repeat (first | (apply can0; (· rfl); (· rfl); (· (intro w'; first | (go_simp; with_reducible rfl) | (go_simp; done))); simp only [Act.put, List.setIfInBounds_toArray, List.set_cons_zero, List.set_cons_succ]) | (apply can1; (· rfl); (· rfl); (· (first | (go_simp; with_reducible rfl) | (go_simp; done))); simp only [Act.put, List.setIfInBounds_toArray, List.set_cons_zero, List.set_cons_succ]) | (apply canN; (· rfl); (· rfl); simp only [Act.put, List.setIfInBounds_toArray, List.set_cons_zero, List.set_cons_succ]) | (apply canN1; (· rfl); (· rfl); simp only [Act.put, List.setIfInBounds_toArray, List.set_cons_zero, List.set_cons_succ]) | (apply can0; (· rfl); (· (go_simp; done)); (· (intro w'; first | (go_simp; with_reducible rfl) | (go_simp; done))); simp only [Act.put, List.setIfInBounds_toArray, List.set_cons_zero, List.set_cons_succ]) | (apply can1; (· rfl); (· (go_simp; done)); (· (first | (go_simp; with_reducible rfl) | (go_simp; done))); simp only [Act.put, List.setIfInBounds_toArray, List.set_cons_zero, List.set_cons_succ]) | (apply canN; (· rfl); (· (go_simp; done)); simp only [Act.put, List.setIfInBounds_toArray, List.set_cons_zero, List.set_cons_succ]) | (apply canN1; (· rfl); (· (go_simp; done)); simp only [Act.put, List.setIfInBounds_toArray, List.set_cons_zero, List.set_cons_succ])))
            refine canW rfl [] rfl (fun K hK => ?_)
            go_simp
            (refine hK _ _ (fun u hu => by cases hu) ?_; clear hK K; try simp only [Act.put, List.setIfInBounds_toArray, List.set_cons_zero, List.set_cons_succ])
            (repeat (first | (apply can0; (· rfl); (· rfl); (· (intro w'; first | (go_simp; with_reducible rfl) | (go_simp; done))); simp only [Act.put, List.setIfInBounds_toArray, List.set_cons_zero, List.set_cons_succ]) | (apply can1; (· rfl); (· rfl); (· (first | (go_simp; with_reducible rfl) | (go_simp; done))); simp only [Act.put, List.setIfInBounds_toArray, List.set_cons_zero, List.set_cons_succ]) | (apply canN; (· rfl); (· rfl); simp only [Act.put, List.setIfInBounds_toArray, List.set_cons_zero, List.set_cons_succ]) | (apply canN1; (· rfl); (· rfl); simp only [Act.put, List.setIfInBounds_toArray, List.set_cons_zero, List.set_cons_succ]) | (apply can0; (· rfl); (· (go_simp; done)); (· (intro w'; first | (go_simp; with_reducible rfl) | (go_simp; done))); simp only [Act.put, List.setIfInBounds_toArray, List.set_cons_zero, List.set_cons_succ]) | (apply can1; (· rfl); (· (go_simp; done)); (· (first | (go_simp; with_reducible rfl) | (go_simp; done))); simp only [Act.put, List.setIfInBounds_toArray, List.set_cons_zero, List.set_cons_succ]) | (apply canN; (· rfl); (· (go_simp; done)); simp only [Act.put, List.setIfInBounds_toArray, List.set_cons_zero, List.set_cons_succ]) | (apply canN1; (· rfl); (· (go_simp; done)); simp only [Act.put, List.setIfInBounds_toArray, List.set_cons_zero, List.set_cons_succ])))
            refine canE ?_
            have hbx0 := HI.out.drew
            clear hcr HI
            generalize wc.drew = wd at *
            obtain ⟨ao, co, rfl, hLc, _⟩ := hbx0.1.form
            go_wp2_with (at_builtin; refine wpList_push rfl (.tmp 45) (.tmp 47) 22 rfl 5 (.int .u8 0) 1 1 i_byte u_bytes rfl (by decide) _ _ _ rfl hbx0.1 1 1 rfl rfl rfl (by unfold maxLen; omega) (by omega) ?_)
            intro v1 w1 ho hch hfo
            obtain ⟨L1, hbx1, HL1, hll1⟩ := hbx0.push ho hch hfo rfl rfl
            clear ho hch hfo hbx0
            obtain ⟨ao1, co1, rfl, hLc1, _⟩ := hbx1.1.form
            go_wp2
            refine wp_loop_rounds 2 ?_
            rw [rounds_succ]
            go_wp2_with (at_builtin; refine wpList_push rfl (.tmp 55) (.tmp 63) 22 rfl 5 (.int .u8 0) 1 1 i_byte u_bytes rfl (by decide) _ _ _ rfl hbx1.1 1 1 rfl rfl rfl (by unfold maxLen; omega) (by omega) ?_)
            intro v2 w2 ho hch hfo
            obtain ⟨L2, hbx2, HL2, hll2⟩ := hbx1.push ho hch hfo rfl rfl
            clear ho hch hfo hbx1
            obtain ⟨ao2, co2, rfl, hLc2, _⟩ := hbx2.1.form
            go_wp2
            rw [rounds_succ]
            go_wp2
            go_roundw
            case rel =>
              refine ⟨k + 1, by omega, by go_num, ?_⟩
              unfold Hid
              rw [HSN.out]
              have hL : L ++ encS s = L2 := by unfold encS; rw [if_neg (by omega), if_pos (by omega)]; rw [HL2.out, HL1.out]; try simp
              rw [hL]
              exact hbx2
            case measure => simp [intOf]; omega
          · by_cases s3 : s < 65536
            · clear hE
              have hzn : z = 3 := by rw [hz]; rw [if_neg s1, if_neg s2, if_pos s3]
              subst hzn
              clear hz
              go_wp2_with fail
              refine wp_one [] [8] [] [0, 1, 2, 3, 4, 5, 6, 7, 8, 9, 10] rfl (by kernel_rfl) (fun _ _ _ _ _ h => h) ?_; simp only [List.map_cons, List.map_nil, List.getElem?_toArray, List.getElem?_cons_zero, List.getElem?_cons_succ]
              (repeat (first | (apply can0; (· rfl); (· rfl); (· (intro w'; first | (go_simp; with_reducible rfl) | (go_simp; done))); simp only [Act.put, List.setIfInBounds_toArray, List.set_cons_zero, List.set_cons_succ]) | (apply can1; (· rfl); (· rfl); (· (first | (go_simp; with_reducible rfl) | (go_simp; done))); simp only [Act.put, List.setIfInBounds_toArray, List.set_cons_zero, List.set_cons_succ]) | (apply canN; (· rfl); (· rfl); simp only [Act.put, List.setIfInBounds_toArray, List.set_cons_zero, List.set_cons_succ]) | (apply canN1; (· rfl); (· rfl); simp only [Act.put, List.setIfInBounds_toArray, List.set_cons_zero, List.set_cons_succ]) | (apply can0; (· rfl); (· (go_simp; done)); (· (intro w'; first | (go_simp; with_reducible rfl) | (go_simp; done))); simp only [Act.put, List.setIfInBounds_toArray, List.set_cons_zero, List.set_cons_succ]) | (apply can1; (· rfl); (· (go_simp; done)); (· (first | (go_simp; with_reducible rfl) | (go_simp; done))); simp only [Act.put, List.setIfInBounds_toArray, List.set_cons_zero, List.set_cons_succ]) | (apply canN; (· rfl); (· (go_simp; done)); simp only [Act.put, List.setIfInBounds_toArray, List.set_cons_zero, List.set_cons_succ]) | (apply canN1; (· rfl); (· (go_simp; done)); simp only [Act.put, List.setIfInBounds_toArray, List.set_cons_zero, List.set_cons_succ])))
              refine canW rfl [] rfl (fun K hK => ?_)
              go_simp
              (refine hK _ _ (fun u hu => by cases hu) ?_; clear hK K; try simp only [Act.put, List.setIfInBounds_toArray, List.set_cons_zero, List.set_cons_succ])
              (repeat (first | (apply can0; (· rfl); (· rfl); (· (intro w'; first | (go_simp; with_reducible rfl) | (go_simp; done))); simp only [Act.put, List.setIfInBounds_toArray, List.set_cons_zero, List.set_cons_succ]) | (apply can1; (· rfl); (· rfl); (· (first | (go_simp; with_reducible rfl) | (go_simp; done))); simp only [Act.put, List.setIfInBounds_toArray, List.set_cons_zero, List.set_cons_succ]) | (apply canN; (· rfl); (· rfl); simp only [Act.put, List.setIfInBounds_toArray, List.set_cons_zero, List.set_cons_succ]) | (apply canN1; (· rfl); (· rfl); simp only [Act.put, List.setIfInBounds_toArray, List.set_cons_zero, List.set_cons_succ]) | (apply can0; (· rfl); (· (go_simp; done)); (· (intro w'; first | (go_simp; with_reducible rfl) | (go_simp; done))); simp only [Act.put, List.setIfInBounds_toArray, List.set_cons_zero, List.set_cons_succ]) | (apply can1; (· rfl); (· (go_simp; done)); (· (first | (go_simp; with_reducible rfl) | (go_simp; done))); simp only [Act.put, List.setIfInBounds_toArray, List.set_cons_zero, List.set_cons_succ]) | (apply canN; (· rfl); (· (go_simp; done)); simp only [Act.put, List.setIfInBounds_toArray, List.set_cons_zero, List.set_cons_succ]) | (apply canN1; (· rfl); (· (go_simp; done)); simp only [Act.put, List.setIfInBounds_toArray, List.set_cons_zero, List.set_cons_succ])))
              refine canE ?_
              have hbx0 := HI.out.drew
              clear hcr HI
              generalize wc.drew = wd at *
              obtain ⟨ao, co, rfl, hLc, _⟩ := hbx0.1.form
              go_wp2_with (at_builtin; refine wpList_push rfl (.tmp 45) (.tmp 47) 22 rfl 5 (.int .u8 0) 1 1 i_byte u_bytes rfl (by decide) _ _ _ rfl hbx0.1 1 1 rfl rfl rfl (by unfold maxLen; omega) (by omega) ?_)
              intro v1 w1 ho hch hfo
              obtain ⟨L1, hbx1, HL1, hll1⟩ := hbx0.push ho hch hfo rfl rfl
              clear ho hch hfo hbx0
              obtain ⟨ao1, co1, rfl, hLc1, _⟩ := hbx1.1.form
              go_wp2
              refine wp_loop_rounds 3 ?_
              rw [rounds_succ]
              go_wp2_with (at_builtin; refine wpList_push rfl (.tmp 55) (.tmp 63) 22 rfl 5 (.int .u8 0) 1 1 i_byte u_bytes rfl (by decide) _ _ _ rfl hbx1.1 1 1 rfl rfl rfl (by unfold maxLen; omega) (by omega) ?_)
              intro v2 w2 ho hch hfo
              obtain ⟨L2, hbx2, HL2, hll2⟩ := hbx1.push ho hch hfo rfl rfl
              clear ho hch hfo hbx1
              obtain ⟨ao2, co2, rfl, hLc2, _⟩ := hbx2.1.form
              go_wp2
              rw [rounds_succ]
              go_wp2_with (at_builtin; refine wpList_push rfl (.tmp 55) (.tmp 63) 22 rfl 5 (.int .u8 0) 1 1 i_byte u_bytes rfl (by decide) _ _ _ rfl hbx2.1 1 1 rfl rfl rfl (by unfold maxLen; omega) (by omega) ?_)
              intro v3 w3 ho hch hfo
              obtain ⟨L3, hbx3, HL3, hll3⟩ := hbx2.push ho hch hfo rfl rfl
              clear ho hch hfo hbx2
              obtain ⟨ao3, co3, rfl, hLc3, _⟩ := hbx3.1.form
              go_wp2
              rw [rounds_succ]
              go_wp2
              go_roundw
              case rel =>
                refine ⟨k + 1, by omega, by go_num, ?_⟩
                unfold Hid
                rw [HSN.out]
                have hL : L ++ encS s = L3 := by unfold encS; rw [if_neg (by omega), if_neg (by omega), if_pos (by omega)]; rw [HL3.out, HL2.out, HL1.out]; try simp
                rw [hL]
                exact hbx3
              case measure => simp [intOf]; omega
            · clear hE
              have hzn : z = 4 := by rw [hz]; rw [if_neg s1, if_neg s2, if_neg s3]
              subst hzn
              clear hz
              go_wp2_with fail
              refine wp_one [] [8] [] [0, 1, 2, 3, 4, 5, 6, 7, 8, 9, 10] rfl (by kernel_rfl) (fun _ _ _ _ _ h => h) ?_; simp only [List.map_cons, List.map_nil, List.getElem?_toArray, List.getElem?_cons_zero, List.getElem?_cons_succ]
              (repeat (first | (apply can0; (· rfl); (· rfl); (· (intro w'; first | (go_simp; with_reducible rfl) | (go_simp; done))); simp only [Act.put, List.setIfInBounds_toArray, List.set_cons_zero, List.set_cons_succ]) | (apply can1; (· rfl); (· rfl); (· (first | (go_simp; with_reducible rfl) | (go_simp; done))); simp only [Act.put, List.setIfInBounds_toArray, List.set_cons_zero, List.set_cons_succ]) | (apply canN; (· rfl); (· rfl); simp only [Act.put, List.setIfInBounds_toArray, List.set_cons_zero, List.set_cons_succ]) | (apply canN1; (· rfl); (· rfl); simp only [Act.put, List.setIfInBounds_toArray, List.set_cons_zero, List.set_cons_succ]) | (apply can0; (· rfl); (· (go_simp; done)); (· (intro w'; first | (go_simp; with_reducible rfl) | (go_simp; done))); simp only [Act.put, List.setIfInBounds_toArray, List.set_cons_zero, List.set_cons_succ]) | (apply can1; (· rfl); (· (go_simp; done)); (· (first | (go_simp; with_reducible rfl) | (go_simp; done))); simp only [Act.put, List.setIfInBounds_toArray, List.set_cons_zero, List.set_cons_succ]) | (apply canN; (· rfl); (· (go_simp; done)); simp only [Act.put, List.setIfInBounds_toArray, List.set_cons_zero, List.set_cons_succ]) | (apply canN1; (· rfl); (· (go_simp; done)); simp only [Act.put, List.setIfInBounds_toArray, List.set_cons_zero, List.set_cons_succ])))
              refine canW rfl [] rfl (fun K hK => ?_)
              go_simp
              (refine hK _ _ (fun u hu => by cases hu) ?_; clear hK K; try simp only [Act.put, List.setIfInBounds_toArray, List.set_cons_zero, List.set_cons_succ])
              (repeat (first | (apply can0; (· rfl); (· rfl); (· (intro w'; first | (go_simp; with_reducible rfl) | (go_simp; done))); simp only [Act.put, List.setIfInBounds_toArray, List.set_cons_zero, List.set_cons_succ]) | (apply can1; (· rfl); (· rfl); (· (first | (go_simp; with_reducible rfl) | (go_simp; done))); simp only [Act.put, List.setIfInBounds_toArray, List.set_cons_zero, List.set_cons_succ]) | (apply canN; (· rfl); (· rfl); simp only [Act.put, List.setIfInBounds_toArray, List.set_cons_zero, List.set_cons_succ]) | (apply canN1; (· rfl); (· rfl); simp only [Act.put, List.setIfInBounds_toArray, List.set_cons_zero, List.set_cons_succ]) | (apply can0; (· rfl); (· (go_simp; done)); (· (intro w'; first | (go_simp; with_reducible rfl) | (go_simp; done))); simp only [Act.put, List.setIfInBounds_toArray, List.set_cons_zero, List.set_cons_succ]) | (apply can1; (· rfl); (· (go_simp; done)); (· (first | (go_simp; with_reducible rfl) | (go_simp; done))); simp only [Act.put, List.setIfInBounds_toArray, List.set_cons_zero, List.set_cons_succ]) | (apply canN; (· rfl); (· (go_simp; done)); simp only [Act.put, List.setIfInBounds_toArray, List.set_cons_zero, List.set_cons_succ]) | (apply canN1; (· rfl); (· (go_simp; done)); simp only [Act.put, List.setIfInBounds_toArray, List.set_cons_zero, List.set_cons_succ])))
              refine canE ?_
              have hbx0 := HI.out.drew
              clear hcr HI
              generalize wc.drew = wd at *
              obtain ⟨ao, co, rfl, hLc, _⟩ := hbx0.1.form
              go_wp2_with (at_builtin; refine wpList_push rfl (.tmp 45) (.tmp 47) 22 rfl 5 (.int .u8 0) 1 1 i_byte u_bytes rfl (by decide) _ _ _ rfl hbx0.1 1 1 rfl rfl rfl (by unfold maxLen; omega) (by omega) ?_)
              intro v1 w1 ho hch hfo
              obtain ⟨L1, hbx1, HL1, hll1⟩ := hbx0.push ho hch hfo rfl rfl
              clear ho hch hfo hbx0
              obtain ⟨ao1, co1, rfl, hLc1, _⟩ := hbx1.1.form
              go_wp2
              refine wp_loop_rounds 4 ?_
              rw [rounds_succ]
              go_wp2_with (at_builtin; refine wpList_push rfl (.tmp 55) (.tmp 63) 22 rfl 5 (.int .u8 0) 1 1 i_byte u_bytes rfl (by decide) _ _ _ rfl hbx1.1 1 1 rfl rfl rfl (by unfold maxLen; omega) (by omega) ?_)
              intro v2 w2 ho hch hfo
              obtain ⟨L2, hbx2, HL2, hll2⟩ := hbx1.push ho hch hfo rfl rfl
              clear ho hch hfo hbx1
              obtain ⟨ao2, co2, rfl, hLc2, _⟩ := hbx2.1.form
              go_wp2
              rw [rounds_succ]
              go_wp2_with (at_builtin; refine wpList_push rfl (.tmp 55) (.tmp 63) 22 rfl 5 (.int .u8 0) 1 1 i_byte u_bytes rfl (by decide) _ _ _ rfl hbx2.1 1 1 rfl rfl rfl (by unfold maxLen; omega) (by omega) ?_)
              intro v3 w3 ho hch hfo
              obtain ⟨L3, hbx3, HL3, hll3⟩ := hbx2.push ho hch hfo rfl rfl
              clear ho hch hfo hbx2
              obtain ⟨ao3, co3, rfl, hLc3, _⟩ := hbx3.1.form
              go_wp2
              rw [rounds_succ]
              go_wp2_with (at_builtin; refine wpList_push rfl (.tmp 55) (.tmp 63) 22 rfl 5 (.int .u8 0) 1 1 i_byte u_bytes rfl (by decide) _ _ _ rfl hbx3.1 1 1 rfl rfl rfl (by unfold maxLen; omega) (by omega) ?_)
              intro v4 w4 ho hch hfo
              obtain ⟨L4, hbx4, HL4, hll4⟩ := hbx3.push ho hch hfo rfl rfl
              clear ho hch hfo hbx3
              obtain ⟨ao4, co4, rfl, hLc4, _⟩ := hbx4.1.form
              go_wp2
              rw [rounds_succ]
              go_wp2
              go_roundw
              case rel =>
                refine ⟨k + 1, by omega, by go_num, ?_⟩
                unfold Hid
                rw [HSN.out]
                have hL : L ++ encS s = L4 := by unfold encS; rw [if_neg (by omega), if_neg (by omega), if_neg (by omega)]; rw [HL4.out, HL3.out, HL2.out, HL1.out]; try simp
                rw [hL]
                exact hbx4
              case measure => simp [intOf]; omega
    · obtain rfl : k = l.length := by omega
      go_wp2
      go_ret
      have h := HI.out
      rw [List.take_length] at h
      exact ⟨_, rfl, h.1, h.2.1, h.2.2⟩
end Go.Proofs.Ytfcgjnmbbgioiaa
