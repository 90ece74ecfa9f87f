
/-
  The document's sum: a block mixed in.
-/
import Derived.Test.YtcgdmidjejmjhaaDoorMr
import Derived.Test.YtcgdmidjejmjhaaDoorMac6
namespace Go.Proofs.YtcgdmidjejmjhaaDoor
open Go.RowKit
set_option linter.unusedVariables false
set_option linter.unusedSimpArgs false

theorem made_words (k : Nat) : (madeCells #[.int .u32 0] k).toList = wordsV (List.replicate k 0) := by
  apply List.ext_getElem?
  intro j
  by_cases h : j < k
  · rw [wordsV, List.getElem?_map, List.getElem?_replicate, if_pos h]
    simp [madeCells, h, Nat.mod_one]
  · rw [List.getElem?_eq_none (by simp [madeCells]; omega), List.getElem?_eq_none (by simp [wordsV]; omega)]
theorem make_words (w : World) : ∃ wm, (Instr.makeSlice 79 (.int .i64 64) (.int .i64 64)).run Tryd.prog w = .ok (.slice (some ⟨w.heap.size, 0, none⟩) 64 64) wm ∧ Blk wm w.heap.size 72 (wordsV (List.replicate 64 0)).toArray ∧ Chg w wm nob := by
  obtain ⟨i, hi, hz, hsize, hby⟩ := info_parts i_word
  have hr := run_make (P := Tryd.prog) w 79 72 i _ u_words hi hz .i64 .i64 64 64 (by omega) (Int.le_refl _) (by rw [hby]; omega) (by omega)
  have e : madeCells (Value.int .u32 0).cells (Int.toNat 64 * i.size) = (wordsV (List.replicate 64 0)).toArray := by
    rw [hsize]
    apply Array.ext'
    exact made_words 64
  rw [e] at hr
  exact ⟨_, hr, Blk.new w _ _, (Chg.refl w nob).alloc _⟩
theorem range_words (l : List Int) (i : Nat) (h : i < 16) : (wsofar ((List.range i).map (word4 l))).set i (word4 l i) = wsofar ((List.range (i + 1)).map (word4 l)) := by
  have h1 : ((List.range i).map (word4 l)).length = i := by simp
  rw [List.range_succ, List.map_append, List.map_singleton, ← wsofar_step (by rw [h1]; omega), h1]
theorem word4_b {l : List Int} (hb : ∀ x ∈ l, 0 ≤ x ∧ x ≤ 255) (i : Nat) (h : 4 * i + 4 ≤ l.length) : 0 ≤ word4 l i ∧ word4 l i < 4294967296 := by
  rw [← numB_four l i h]
  have h1 := numB_b 4 ((l.take (4 * i + 4)).drop (4 * i)) (by simp; omega) (fun x hx => hb x (List.mem_of_mem_take (List.mem_of_mem_drop hx)))
  have e : (256 : Int) ^ 4 = 4294967296 := by decide
  rw [e] at h1
  exact h1
set_option maxRecDepth 100000 in
set_option maxHeartbeats 1500000 in
theorem block_any (w : World) (vh vk vb : Value) (s : S8) (l : List Int) (hh : Rd w 1 vh 8 (wordsV s.l)) (hnh : NilOk vh) (hk : Rd w 1 vk 64 (wordsV roundsL)) (ha : Rd w 1 vb l.length (bytesV l)) (hb : ∀ x ∈ l, 0 ≤ x ∧ x ≤ 255) (hl : l.length = 64) :
    Calls Tryd.prog 46 #[vh, vk, vb] w fun e w' => ∃ v, e = .returned v ∧ Own w' 72 1 v 8 (wordsV (mixF s l).l) ∧ Chg w w' nob ∧ ∀ k, blkOf v k → w.heap.size ≤ k := by
  have HA := Lib.hid ha
  have HB := Lib.hid hb
  have HL := Lib.hid hl
  have HH := Lib.hid hh
  have HK := Lib.hid hk
  have HNH := Lib.hid hnh
  obtain ⟨ab, cb, rfl, hcb, _⟩ := ha.form
  obtain ⟨ak, ck, rfl, hck, _⟩ := hk.form
  obtain ⟨ah, ch, rfl, hch, _⟩ := hh.form
  rw [hl] at hcb ⊢
  clear ha hb hl hh hk hnh
  obtain ⟨wm, hmk, hbm, hcm⟩ := make_words w
  have HBM : Hid (Blk wm w.heap.size 72 (wordsV (wsofar ((List.range 0).map (word4 l)))).toArray) := Lib.hid hbm
  have HCM := Lib.hid hcm
  clear hbm hcm
  have hcbi : (64 : Int) ≤ (cb : Int) := by omega
  go_enter Tryd.func46, Tryd.ntmps46
  go_wp2_with fail
  go_loopw [8] (fun iv wr => ∃ i : Nat, i ≤ 16 ∧ iv = .int .i64 i ∧ Hid (Blk wr w.heap.size 72 (wordsV (wsofar ((List.range i).map (word4 l)))).toArray) ∧ Hid (Chg w wr nob)) (fun iv _ => 16 - (intOf iv).toNat)
  case atStart => exact ⟨0, by omega, rfl, HBM, HCM⟩
  case round =>
    obtain ⟨i, hi, rfl, HW, HC⟩ := hrel
    clear HBM HCM
    by_cases hil : i < 16
    · have hii : (i : Int) < 16 := by omega
      have hi0 : (0 : Int) ≤ (i : Int) := by omega
      have hi64 : (i : Int) < 64 := by omega
      obtain ⟨p, hp⟩ : ∃ p, 4 * i = p := ⟨_, rfl⟩
      have hw1 : IntKind.i64.wrap (4 * (i : Int)) = (p : Int) := by rw [show (4 * (i : Int)) = (p : Int) by omega]; simp only [IntKind.wrap, IntKind.bits, IntKind.signed]; simp; omega
      have hw2 : IntKind.i64.wrap ((p : Int) + 4) = (p : Int) + 4 := by simp only [IntKind.wrap, IntKind.bits, IntKind.signed]; simp; omega
      have hsl : ∀ w', (Instr.slice 22 (.slice ab 64 cb) (some (.int .i64 (p : Int))) (some (.int .i64 ((p : Int) + 4))) none).run Tryd.prog w' = .ok (.slice (addS ab cb p) 4 (cb - p)) w' := fun w' => by
        have h := bcut_lh ab 64 cb .i64 .i64 (p : Int) ((p : Int) + 4) w' (by omega) (by omega) (by omega)
        rw [show ((p : Int) + 4).toNat = p + 4 by omega, show (p : Int).toNat = p by omega, show p + 4 - p = 4 by omega] at h
        exact h
      have hq := words_cell HW.out (j := i) (x := 0) (by rw [wsofar, List.getElem?_append_right (by simp), List.getElem?_replicate, if_pos (by simp; omega)])
      have hf := HW.out.free i
      have hst := words_set HW.out i (word4 l i)
      rw [range_words l i hil] at hst
      have HST := Lib.hid hst
      have HRD : Hid (Rd wr 1 (.slice (addS ab cb p) 4 (cb - p)) ((l.take (p + 4)).drop p).length (bytesV ((l.take (p + 4)).drop p))) := Lib.hid (by
        have h := (HA.out.kept HC.out (fun _ _ => id))
        rw [HL.out] at h
        have h := h.cut (l := p) (m := p + 4) (by omega) (by omega)
        rw [show p + 4 - p = 4 by omega] at h
        have e : ((l.take (p + 4)).drop p).length = 4 := by have := HL.out; simp; omega
        rw [e]
        rw [show ((bytesV l).take (p + 4)).drop p = bytesV ((l.take (p + 4)).drop p) by simp [bytesV, List.map_take, List.map_drop]] at h
        exact h)
      have h4l : 4 * i + 4 ≤ l.length := by have := HL.out; omega
      have HNB : Hid (numB ((l.take (p + 4)).drop p) = word4 l i) := Lib.hid (by rw [← hp]; exact numB_four l i h4l)
      have hwb := word4_b HB.out i h4l
      obtain ⟨x, hx⟩ : ∃ x, word4 l i = x := ⟨_, rfl⟩
      have HX := Lib.hid hx
      rw [hx] at HNB hwb HST
      obtain ⟨x0, x1⟩ := hwb
      have hwx : IntKind.u32.wrap x = x := wrp_u32 _ x0 (by omega)
      have HLP : Hid (((l.take (p + 4)).drop p).length = 4) := Lib.hid (by have := HL.out; simp; omega)
      clear hst hx hp h4l
      go_wp2_with fail
      go_at_call 32
      refine (big_any wr _ ((l.take (p + 4)).drop p) HRD.out (fun x hx => HB.out x (List.mem_of_mem_take (List.mem_of_mem_drop hx))) HLP.out).mono ?_
      rw [HNB.out]
      rintro e w2 ⟨rfl, rfl⟩
      go_wp2_with fail
      go_roundw
      case rel => exact ⟨i + 1, by omega, by go_num, HST, Lib.hid (HC.out.setCell (.inr (by simp)) _)⟩
      case measure => simp [intOf]; omega
    · obtain rfl : i = 16 := by omega
      have HWF : Hid (Blk wr w.heap.size 72 (wordsV (wsofar (extF (16 - 16) (first16 l)))).toArray) := HW
      have hsl : (first16 l).length = 16 := by simp [first16]
      have HSL := Lib.hid hsl
      clear hsl HW
      go_wp2_with fail
      rw [show ((16 : Nat) : Int) = 16 from rfl]
      go_loopw [9, 10, 11] (fun iv _ _ wr => ∃ i : Nat, 16 ≤ i ∧ i ≤ 64 ∧ iv = .int .i64 i ∧ Hid (Blk wr w.heap.size 72 (wordsV (wsofar (extF (i - 16) (first16 l)))).toArray) ∧ Hid (Chg w wr nob)) (fun iv _ _ _ => 64 - (intOf iv).toNat)
      case atStart => exact ⟨16, by omega, by omega, rfl, HWF, HC⟩
      case round =>
        obtain ⟨i, hi1, hi2, rfl, HW2, HC2⟩ := hrel
        clear HWF HC
        have HEL : Hid ((extF (i - 16) (first16 l)).length = i) := Lib.hid (by rw [extF_len, HSL.out]; omega)
        by_cases hil2 : i < 64
        · have hii : (i : Int) < 64 := by omega
          have hexs : extF (i + 1 - 16) (first16 l) = extF (i - 16) (first16 l) ++ [nextW (extF (i - 16) (first16 l))] := by rw [show i + 1 - 16 = (i - 16) + 1 by omega, extF_succ]
          have HEX := Lib.hid hexs
          obtain ⟨W, hW⟩ : ∃ W, extF (i - 16) (first16 l) = W := ⟨_, rfl⟩
          rw [hW] at HW2 HEL HEX
          clear hexs hW
          obtain ⟨p16, hp16⟩ : ∃ p, i - 16 = p := ⟨_, rfl⟩
          obtain ⟨p15, hp15⟩ : ∃ p, i - 15 = p := ⟨_, rfl⟩
          obtain ⟨p7, hp7⟩ : ∃ p, i - 7 = p := ⟨_, rfl⟩
          obtain ⟨p2, hp2⟩ : ∃ p, i - 2 = p := ⟨_, rfl⟩
          have v16 : IntKind.i64.wrap ((i : Int) - 16) = (p16 : Int) := by rw [show (i : Int) - 16 = (p16 : Int) by omega]; simp only [IntKind.wrap, IntKind.bits, IntKind.signed]; simp; omega
          have v15 : IntKind.i64.wrap ((i : Int) - 15) = (p15 : Int) := by rw [show (i : Int) - 15 = (p15 : Int) by omega]; simp only [IntKind.wrap, IntKind.bits, IntKind.signed]; simp; omega
          have v7 : IntKind.i64.wrap ((i : Int) - 7) = (p7 : Int) := by rw [show (i : Int) - 7 = (p7 : Int) by omega]; simp only [IntKind.wrap, IntKind.bits, IntKind.signed]; simp; omega
          have v2 : IntKind.i64.wrap ((i : Int) - 2) = (p2 : Int) := by rw [show (i : Int) - 2 = (p2 : Int) by omega]; simp only [IntKind.wrap, IntKind.bits, IntKind.signed]; simp; omega
          have b16 : (0 : Int) ≤ (p16 : Int) ∧ (p16 : Int) < 64 := by omega
          have b15 : (0 : Int) ≤ (p15 : Int) ∧ (p15 : Int) < 64 := by omega
          have b7 : (0 : Int) ≤ (p7 : Int) ∧ (p7 : Int) < 64 := by omega
          have b2 : (0 : Int) ≤ (p2 : Int) ∧ (p2 : Int) < 64 := by omega
          have hib : (0 : Int) ≤ (i : Int) := by omega
          obtain ⟨b16, b16'⟩ := b16
          obtain ⟨b15, b15'⟩ := b15
          obtain ⟨b7, b7'⟩ := b7
          obtain ⟨b2, b2'⟩ := b2
          have c16 := words_cell HW2.out (wsofar_at (j := p16) (by rw [HEL.out]; omega))
          have c15 := words_cell HW2.out (wsofar_at (j := p15) (by rw [HEL.out]; omega))
          have c7 := words_cell HW2.out (wsofar_at (j := p7) (by rw [HEL.out]; omega))
          have c2 := words_cell HW2.out (wsofar_at (j := p2) (by rw [HEL.out]; omega))
          have ci := words_cell HW2.out (j := i) (x := 0) (by rw [wsofar, List.getElem?_append_right (by rw [HEL.out]; omega), HEL.out, List.getElem?_replicate, if_pos (by omega)])
          have cf := HW2.out.free i
          obtain ⟨x16, h16⟩ : ∃ x, W.getD p16 0 = x := ⟨_, rfl⟩
          obtain ⟨x15, h15⟩ : ∃ x, W.getD p15 0 = x := ⟨_, rfl⟩
          obtain ⟨x7, h7⟩ : ∃ x, W.getD p7 0 = x := ⟨_, rfl⟩
          obtain ⟨x2, h2⟩ : ∃ x, W.getD p2 0 = x := ⟨_, rfl⟩
          have HNX : Hid (nextW W = wu (wu (wu (x16 + xo (xo (rotR x15 7) (rotR x15 18)) (x15 / 8)) + x7) + xo (xo (rotR x2 17) (rotR x2 19)) (x2 / 1024))) := Lib.hid (by
            rw [← h16, ← h15, ← h7, ← h2]
            unfold nextW
            simp only [HEL.out, hp16, hp15, hp7, hp2])
          rw [h16] at c16
          rw [h15] at c15
          rw [h7] at c7
          rw [h2] at c2
          clear h16 h15 h7 h2 hp16 hp15 hp7 hp2
          go_wp2_with fail
          refine wp_one [4, 9] [] [] [0, 1, 2, 3, 4, 5, 6, 7, 8, 9, 10, 11] rfl (by kernel_rfl) (fun _ _ _ _ _ h => h) ?_; simp only [List.map_cons, List.map_nil, List.getElem?_toArray, List.getElem?_cons_zero, List.getElem?_cons_succ]
          (repeat (first | (apply can0; (· rfl); (· rfl); (· (intro w'; first | (go_simp; with_reducible rfl) | (go_simp; done))); simp only [Act.put, List.setIfInBounds_toArray, List.set_cons_zero, List.set_cons_succ]) | (apply can1; (· rfl); (· rfl); (· (first | (go_simp; with_reducible rfl) | (go_simp; done))); simp only [Act.put, List.setIfInBounds_toArray, List.set_cons_zero, List.set_cons_succ]) | (apply canN; (· rfl); (· rfl); simp only [Act.put, List.setIfInBounds_toArray, List.set_cons_zero, List.set_cons_succ]) | (apply canN1; (· rfl); (· rfl); simp only [Act.put, List.setIfInBounds_toArray, List.set_cons_zero, List.set_cons_succ]) | (apply can0; (· rfl); (· (go_simp; done)); (· (intro w'; first | (go_simp; with_reducible rfl) | (go_simp; done))); simp only [Act.put, List.setIfInBounds_toArray, List.set_cons_zero, List.set_cons_succ]) | (apply can1; (· rfl); (· (go_simp; done)); (· (first | (go_simp; with_reducible rfl) | (go_simp; done))); simp only [Act.put, List.setIfInBounds_toArray, List.set_cons_zero, List.set_cons_succ]) | (apply canN; (· rfl); (· (go_simp; done)); simp only [Act.put, List.setIfInBounds_toArray, List.set_cons_zero, List.set_cons_succ]) | (apply canN1; (· rfl); (· (go_simp; done)); simp only [Act.put, List.setIfInBounds_toArray, List.set_cons_zero, List.set_cons_succ])))
          refine canE ?_
          go_wp2_with fail
          refine wp_one [6, 20] [8, 10, 23, 25, 32] [(8, [6, 20]), (10, [6, 20]), (23, [6, 20]), (25, [6, 20])] [0, 1, 2, 3, 4, 5, 6, 7, 9, 12, 13, 16, 17, 18, 19, 20, 22, 24, 27, 28, 8, 10, 11, 14, 15, 21, 23, 25, 26, 29, 30, 31, 32] rfl (by kernel_rfl) (fun _ _ _ _ _ h => h) ?_; simp only [List.map_cons, List.map_nil, List.getElem?_toArray, List.getElem?_cons_zero, List.getElem?_cons_succ]
          (repeat (first | (apply can0; (· rfl); (· rfl); (· (intro w'; first | (go_simp; with_reducible rfl) | (go_simp; done))); simp only [Act.put, List.setIfInBounds_toArray, List.set_cons_zero, List.set_cons_succ]) | (apply can1; (· rfl); (· rfl); (· (first | (go_simp; with_reducible rfl) | (go_simp; done))); simp only [Act.put, List.setIfInBounds_toArray, List.set_cons_zero, List.set_cons_succ]) | (apply canN; (· rfl); (· rfl); simp only [Act.put, List.setIfInBounds_toArray, List.set_cons_zero, List.set_cons_succ]) | (apply canN1; (· rfl); (· rfl); simp only [Act.put, List.setIfInBounds_toArray, List.set_cons_zero, List.set_cons_succ]) | (apply can0; (· rfl); (· (go_simp; done)); (· (intro w'; first | (go_simp; with_reducible rfl) | (go_simp; done))); simp only [Act.put, List.setIfInBounds_toArray, List.set_cons_zero, List.set_cons_succ]) | (apply can1; (· rfl); (· (go_simp; done)); (· (first | (go_simp; with_reducible rfl) | (go_simp; done))); simp only [Act.put, List.setIfInBounds_toArray, List.set_cons_zero, List.set_cons_succ]) | (apply canN; (· rfl); (· (go_simp; done)); simp only [Act.put, List.setIfInBounds_toArray, List.set_cons_zero, List.set_cons_succ]) | (apply canN1; (· rfl); (· (go_simp; done)); simp only [Act.put, List.setIfInBounds_toArray, List.set_cons_zero, List.set_cons_succ])))
          refine canW rfl [6, 20] rfl (fun K hK => ?_)
          go_simp
          go_at_call 50
          refine (turn_7 _ _).mono ?_
          rintro e w' ⟨rfl, rfl⟩
          (refine hK _ _ (fun u hu => by (simp only [List.mem_cons, List.not_mem_nil, or_false] at hu); (first | (subst hu; exact reRun_mk rfl (by first | (go_simp; with_reducible rfl) | (go_simp; done)) (holds_at rfl)) | ((repeat' (first | (rcases hu with rfl | hu) | (subst hu))) <;> exact reRun_mk rfl (by first | (go_simp; with_reducible rfl) | (go_simp; done)) (holds_at rfl)))) ?_; clear hK K; try simp only [Act.put, List.setIfInBounds_toArray, List.set_cons_zero, List.set_cons_succ])
          (repeat (first | (apply can0; (· rfl); (· rfl); (· (intro w'; first | (go_simp; with_reducible rfl) | (go_simp; done))); simp only [Act.put, List.setIfInBounds_toArray, List.set_cons_zero, List.set_cons_succ]) | (apply can1; (· rfl); (· rfl); (· (first | (go_simp; with_reducible rfl) | (go_simp; done))); simp only [Act.put, List.setIfInBounds_toArray, List.set_cons_zero, List.set_cons_succ]) | (apply canN; (· rfl); (· rfl); simp only [Act.put, List.setIfInBounds_toArray, List.set_cons_zero, List.set_cons_succ]) | (apply canN1; (· rfl); (· rfl); simp only [Act.put, List.setIfInBounds_toArray, List.set_cons_zero, List.set_cons_succ]) | (apply can0; (· rfl); (· (go_simp; done)); (· (intro w'; first | (go_simp; with_reducible rfl) | (go_simp; done))); simp only [Act.put, List.setIfInBounds_toArray, List.set_cons_zero, List.set_cons_succ]) | (apply can1; (· rfl); (· (go_simp; done)); (· (first | (go_simp; with_reducible rfl) | (go_simp; done))); simp only [Act.put, List.setIfInBounds_toArray, List.set_cons_zero, List.set_cons_succ]) | (apply canN; (· rfl); (· (go_simp; done)); simp only [Act.put, List.setIfInBounds_toArray, List.set_cons_zero, List.set_cons_succ]) | (apply canN1; (· rfl); (· (go_simp; done)); simp only [Act.put, List.setIfInBounds_toArray, List.set_cons_zero, List.set_cons_succ])))
          refine canW rfl [6, 20] rfl (fun K hK => ?_)
          go_simp
          go_at_call 50
          refine (turn_18 _ _).mono ?_
          rintro e w' ⟨rfl, rfl⟩
          (refine hK _ _ (fun u hu => by (simp only [List.mem_cons, List.not_mem_nil, or_false] at hu); (first | (subst hu; exact reRun_mk rfl (by first | (go_simp; with_reducible rfl) | (go_simp; done)) (holds_at rfl)) | ((repeat' (first | (rcases hu with rfl | hu) | (subst hu))) <;> exact reRun_mk rfl (by first | (go_simp; with_reducible rfl) | (go_simp; done)) (holds_at rfl)))) ?_; clear hK K; try simp only [Act.put, List.setIfInBounds_toArray, List.set_cons_zero, List.set_cons_succ])
          (repeat (first | (apply can0; (· rfl); (· rfl); (· (intro w'; first | (go_simp; with_reducible rfl) | (go_simp; done))); simp only [Act.put, List.setIfInBounds_toArray, List.set_cons_zero, List.set_cons_succ]) | (apply can1; (· rfl); (· rfl); (· (first | (go_simp; with_reducible rfl) | (go_simp; done))); simp only [Act.put, List.setIfInBounds_toArray, List.set_cons_zero, List.set_cons_succ]) | (apply canN; (· rfl); (· rfl); simp only [Act.put, List.setIfInBounds_toArray, List.set_cons_zero, List.set_cons_succ]) | (apply canN1; (· rfl); (· rfl); simp only [Act.put, List.setIfInBounds_toArray, List.set_cons_zero, List.set_cons_succ]) | (apply can0; (· rfl); (· (go_simp; done)); (· (intro w'; first | (go_simp; with_reducible rfl) | (go_simp; done))); simp only [Act.put, List.setIfInBounds_toArray, List.set_cons_zero, List.set_cons_succ]) | (apply can1; (· rfl); (· (go_simp; done)); (· (first | (go_simp; with_reducible rfl) | (go_simp; done))); simp only [Act.put, List.setIfInBounds_toArray, List.set_cons_zero, List.set_cons_succ]) | (apply canN; (· rfl); (· (go_simp; done)); simp only [Act.put, List.setIfInBounds_toArray, List.set_cons_zero, List.set_cons_succ]) | (apply canN1; (· rfl); (· (go_simp; done)); simp only [Act.put, List.setIfInBounds_toArray, List.set_cons_zero, List.set_cons_succ])))
          refine canW rfl [6, 20] rfl (fun K hK => ?_)
          go_simp
          go_at_call 50
          refine (turn_17 _ _).mono ?_
          rintro e w' ⟨rfl, rfl⟩
          (refine hK _ _ (fun u hu => by (simp only [List.mem_cons, List.not_mem_nil, or_false] at hu); (first | (subst hu; exact reRun_mk rfl (by first | (go_simp; with_reducible rfl) | (go_simp; done)) (holds_at rfl)) | ((repeat' (first | (rcases hu with rfl | hu) | (subst hu))) <;> exact reRun_mk rfl (by first | (go_simp; with_reducible rfl) | (go_simp; done)) (holds_at rfl)))) ?_; clear hK K; try simp only [Act.put, List.setIfInBounds_toArray, List.set_cons_zero, List.set_cons_succ])
          (repeat (first | (apply can0; (· rfl); (· rfl); (· (intro w'; first | (go_simp; with_reducible rfl) | (go_simp; done))); simp only [Act.put, List.setIfInBounds_toArray, List.set_cons_zero, List.set_cons_succ]) | (apply can1; (· rfl); (· rfl); (· (first | (go_simp; with_reducible rfl) | (go_simp; done))); simp only [Act.put, List.setIfInBounds_toArray, List.set_cons_zero, List.set_cons_succ]) | (apply canN; (· rfl); (· rfl); simp only [Act.put, List.setIfInBounds_toArray, List.set_cons_zero, List.set_cons_succ]) | (apply canN1; (· rfl); (· rfl); simp only [Act.put, List.setIfInBounds_toArray, List.set_cons_zero, List.set_cons_succ]) | (apply can0; (· rfl); (· (go_simp; done)); (· (intro w'; first | (go_simp; with_reducible rfl) | (go_simp; done))); simp only [Act.put, List.setIfInBounds_toArray, List.set_cons_zero, List.set_cons_succ]) | (apply can1; (· rfl); (· (go_simp; done)); (· (first | (go_simp; with_reducible rfl) | (go_simp; done))); simp only [Act.put, List.setIfInBounds_toArray, List.set_cons_zero, List.set_cons_succ]) | (apply canN; (· rfl); (· (go_simp; done)); simp only [Act.put, List.setIfInBounds_toArray, List.set_cons_zero, List.set_cons_succ]) | (apply canN1; (· rfl); (· (go_simp; done)); simp only [Act.put, List.setIfInBounds_toArray, List.set_cons_zero, List.set_cons_succ])))
          refine canW rfl [6, 20] rfl (fun K hK => ?_)
          go_simp
          go_at_call 50
          refine (turn_19 _ _).mono ?_
          rintro e w' ⟨rfl, rfl⟩
          (refine hK _ _ (fun u hu => by (simp only [List.mem_cons, List.not_mem_nil, or_false] at hu); (first | (subst hu; exact reRun_mk rfl (by first | (go_simp; with_reducible rfl) | (go_simp; done)) (holds_at rfl)) | ((repeat' (first | (rcases hu with rfl | hu) | (subst hu))) <;> exact reRun_mk rfl (by first | (go_simp; with_reducible rfl) | (go_simp; done)) (holds_at rfl)))) ?_; clear hK K; try simp only [Act.put, List.setIfInBounds_toArray, List.set_cons_zero, List.set_cons_succ])
          (repeat (first | (apply can0; (· rfl); (· rfl); (· (intro w'; first | (go_simp; with_reducible rfl) | (go_simp; done))); simp only [Act.put, List.setIfInBounds_toArray, List.set_cons_zero, List.set_cons_succ]) | (apply can1; (· rfl); (· rfl); (· (first | (go_simp; with_reducible rfl) | (go_simp; done))); simp only [Act.put, List.setIfInBounds_toArray, List.set_cons_zero, List.set_cons_succ]) | (apply canN; (· rfl); (· rfl); simp only [Act.put, List.setIfInBounds_toArray, List.set_cons_zero, List.set_cons_succ]) | (apply canN1; (· rfl); (· rfl); simp only [Act.put, List.setIfInBounds_toArray, List.set_cons_zero, List.set_cons_succ]) | (apply can0; (· rfl); (· (go_simp; done)); (· (intro w'; first | (go_simp; with_reducible rfl) | (go_simp; done))); simp only [Act.put, List.setIfInBounds_toArray, List.set_cons_zero, List.set_cons_succ]) | (apply can1; (· rfl); (· (go_simp; done)); (· (first | (go_simp; with_reducible rfl) | (go_simp; done))); simp only [Act.put, List.setIfInBounds_toArray, List.set_cons_zero, List.set_cons_succ]) | (apply canN; (· rfl); (· (go_simp; done)); simp only [Act.put, List.setIfInBounds_toArray, List.set_cons_zero, List.set_cons_succ]) | (apply canN1; (· rfl); (· (go_simp; done)); simp only [Act.put, List.setIfInBounds_toArray, List.set_cons_zero, List.set_cons_succ])))
          refine canW rfl [] rfl (fun K hK => ?_)
          go_simp
          (refine hK _ _ (fun u hu => by cases hu) ?_; clear hK K; try simp only [Act.put, List.setIfInBounds_toArray, List.set_cons_zero, List.set_cons_succ])
          refine canE ?_
          go_wp2
          have hst := words_set HW2.out i (nextW W)
          rw [show (wsofar W).set i (nextW W) = wsofar (W ++ [nextW W]) from by rw [← HEL.out, wsofar_step (by rw [HEL.out]; omega)], ← HEX.out] at hst
          have hcs : Chg w (wr.setCell ⟨w.heap.size, i, none⟩ (.int .u32 (nextW W))) nob := HC2.out.setCell (.inr (by simp)) _
          rw [HNX.out] at hst hcs
          go_roundw
          case rel => exact ⟨i + 1, by omega, by omega, by go_num, Lib.hid (Blk.drew (Blk.drew hst)), Lib.hid hcs.drew.drew⟩
          case measure => simp [intOf]; omega
        · obtain rfl : i = 64 := by omega
          rw [show ((64 : Nat) : Int) = 64 from rfl]
          have HWS : Hid (Blk wr w.heap.size 72 (wordsV (sched l)).toArray) := Lib.hid (by rw [show sched l = extF (64 - 16) (first16 l) from rfl, ← wsofar_full HEL.out]; exact HW2.out)
          have hown : Own (wr.alloc (.cells #[] 72)) 72 1 (.slice (some ⟨wr.heap.size, 0, none⟩) 0 0) 0 [] := Own.lit wr 72 #[] (by decide)
          have HOW := Lib.hid hown
          have HSRC : Hid (∀ a, ah = some a → ∀ j u, (wordsV s.l)[j]? = some u → (wr.alloc (.cells #[] 72)).cell? (a.add j) = some u) := Lib.hid (fun a e j u hu => by
            obtain ⟨b, o, e2, hc⟩ := ((HH.out.kept HC2.out (fun _ _ => id)).alloc (.cells #[] 72)).cell hu
            rw [e] at e2
            cases e2
            rw [Addr.add_lit]; exact hc)
          have HN8 : Hid (ah = none → (8 : Nat) = 0 ∧ ch = 0) := Lib.hid (fun e => by
            subst e
            obtain ⟨b, o, e2, _⟩ := HH.out.cell (j := 0) (u := .int .u32 s.a) rfl
            cases e2)
          clear hown HW2 HEL
          go_wp2_with (at_builtin; refine wpList_app rfl (.tmp 80) (.tmp 81) 79 rfl 72 (.int .u32 0) 1 4 i_word u_words rfl (by decide) _ 0 _ rfl HOW.out ah 8 ch (wordsV s.l) rfl HN8.out rfl HSRC.out (words_one' _) (by unfold maxLen; omega) (by omega) ?_)
          intro v3 w3 ho3 hc3 hf3
          obtain ⟨o3, c3, rfl, _, _, _, ho3f⟩ := ho3.form
          obtain ⟨g3, rfl⟩ : ∃ g, o3 = some ⟨g, 0, none⟩ := by
            obtain ⟨g, e, _⟩ := ho3.at (j := 0) (by omega)
            exact ⟨g, e⟩
          have HO3 : Hid (Own w3 72 1 (.slice (some ⟨g3, 0, none⟩) 8 c3) 8 (wordsV s.l)) := Lib.hid (by simpa using ho3)
          have HG3 : Hid (w.heap.size < g3) := Lib.hid (by
            have h1 := HC2.out.size
            have h2 := HWS.out.lt
            have h3 := size_al wr (.cells #[] 72)
            rcases hf3 g3 rfl with h | h
            · cases h; omega
            · omega)
          have HC3 : Hid (Chg w w3 nob) := Lib.hid ((HC2.out.alloc _).trans hc3 (fun i hi h => by
            have h1 := HC2.out.size
            have e : wr.heap.size = i := Option.some.inj h
            omega))
          have HW3 : Hid (Blk w3 w.heap.size 72 (wordsV (sched l)).toArray) := Lib.hid ((HWS.out.alloc _).kept hc3 (fun h => by
            have h2 := HWS.out.lt
            have e : wr.heap.size = w.heap.size := Option.some.inj h
            omega))
          clear ho3 hc3 hf3 ho3f HWS HC2 HOW HSRC HN8
          go_wp2_with fail
          go_loopw [12, 13, 14, 15] (fun vv iv _ _ wr => ∃ (i : Nat) (a b c d e f g h : Int) (gb cv : Nat), i ≤ 64 ∧ iv = .int .i64 i ∧ vv = .slice (some ⟨gb, 0, none⟩) 8 cv ∧ Hid (Own wr 72 1 (.slice (some ⟨gb, 0, none⟩) 8 cv) 8 (wordsV (S8.l ⟨a, b, c, d, e, f, g, h⟩))) ∧ Hid (w.heap.size < gb) ∧ Hid (stN s (sched l) i = ⟨a, b, c, d, e, f, g, h⟩) ∧ Hid (Blk wr w.heap.size 72 (wordsV (sched l)).toArray) ∧ Hid (Chg w wr nob)) (fun _ iv _ _ _ => 64 - (intOf iv).toNat)
          case atStart => exact ⟨0, s.a, s.b, s.c, s.d, s.e, s.f, s.g, s.h, g3, c3, by omega, rfl, rfl, HO3, HG3, Lib.hid rfl, HW3, HC3⟩
          case round =>
            obtain ⟨i, a, b, c, d, e, f, g, h, gb, cv, hi, rfl, rfl, HO, HG, HS, HWB, HCH⟩ := hrel
            clear HO3 HG3 HW3 HC3
            by_cases hil : i < 64
            · have hii : (i : Int) < 64 := by omega
              have hi0 : (0 : Int) ≤ (i : Int) := by omega
              have HSS := Lib.hid (stN_succ (s := s) (W := sched l) hil (sched_len l))
              obtain ⟨x, hx⟩ : ∃ x, (sched l).getD i 0 = x := ⟨_, rfl⟩
              obtain ⟨k, hk⟩ : ∃ k, roundsL.getD i 0 = k := ⟨_, rfl⟩
              have hcw := words_cell HWB.out (j := i) (x := x) (by have := sched_len l; rw [← hx]; simp [List.getD, show i < (sched l).length by omega])
              obtain ⟨gk, ok, rfl, hck⟩ := HK.out.cell (j := i) (u := .int .u32 k) (by rw [← hk]; simp [wordsV, List.getD, show i < roundsL.length from hil])
              have hckr := HCH.out.cell hck id
              rw [hx, hk] at HSS
              have q : ∀ (j : Nat) (z : Int), (S8.l ⟨a, b, c, d, e, f, g, h⟩)[j]? = some z → j < 8 → wr.cell? ⟨gb, j, none⟩ = some (.int .u32 z) := fun j z hz hj => by
                rw [HO.out.cellAt j (by omega), wordsV, List.getElem?_map, hz]; rfl
              have q0 := q 0 a rfl (by omega)
              have q1 := q 1 b rfl (by omega)
              have q2 := q 2 c rfl (by omega)
              have q3 := q 3 d rfl (by omega)
              have q4 := q 4 e rfl (by omega)
              have q5 := q 5 f rfl (by omega)
              have q6 := q 6 g rfl (by omega)
              have q7 := q 7 h rfl (by omega)
              clear q hx hk hck
              go_wp2_with fail
              refine wp_one [2, 5, 9, 14, 20, 23, 27, 31, 38, 43] [6, 10, 15] [(6, [2, 9, 14, 20, 23, 27, 31, 38, 43]), (10, [2, 14, 20, 23, 27, 31, 38, 43]), (15, [2, 20, 23, 27, 31, 38, 43])] [0, 1, 2, 3, 4, 5, 7, 8, 9, 12, 13, 14, 18, 19, 20, 21, 22, 23, 24, 25, 26, 27, 28, 29, 30, 31, 32, 33, 35, 36, 37, 38, 40, 41, 42, 43, 6, 10, 11, 15, 16, 17, 34, 39, 44, 45] rfl (by kernel_rfl) (fun _ _ _ _ _ h => h) ?_; simp only [List.map_cons, List.map_nil, List.getElem?_toArray, List.getElem?_cons_zero, List.getElem?_cons_succ]
              (repeat (first | (apply can0; (· rfl); (· rfl); (· (intro w'; first | (go_simp; with_reducible rfl) | (go_simp; done))); simp only [Act.put, List.setIfInBounds_toArray, List.set_cons_zero, List.set_cons_succ]) | (apply can1; (· rfl); (· rfl); (· (first | (go_simp; with_reducible rfl) | (go_simp; done))); simp only [Act.put, List.setIfInBounds_toArray, List.set_cons_zero, List.set_cons_succ]) | (apply canN; (· rfl); (· rfl); simp only [Act.put, List.setIfInBounds_toArray, List.set_cons_zero, List.set_cons_succ]) | (apply canN1; (· rfl); (· rfl); simp only [Act.put, List.setIfInBounds_toArray, List.set_cons_zero, List.set_cons_succ]) | (apply can0; (· rfl); (· (go_simp; done)); (· (intro w'; first | (go_simp; with_reducible rfl) | (go_simp; done))); simp only [Act.put, List.setIfInBounds_toArray, List.set_cons_zero, List.set_cons_succ]) | (apply can1; (· rfl); (· (go_simp; done)); (· (first | (go_simp; with_reducible rfl) | (go_simp; done))); simp only [Act.put, List.setIfInBounds_toArray, List.set_cons_zero, List.set_cons_succ]) | (apply canN; (· rfl); (· (go_simp; done)); simp only [Act.put, List.setIfInBounds_toArray, List.set_cons_zero, List.set_cons_succ]) | (apply canN1; (· rfl); (· (go_simp; done)); simp only [Act.put, List.setIfInBounds_toArray, List.set_cons_zero, List.set_cons_succ])))
              refine canW rfl [2, 9, 14, 20, 23, 27, 31, 38, 43] rfl (fun K hK => ?_)
              go_simp
              go_at_call 50
              refine (turn_6 _ _).mono ?_
              rintro e w' ⟨rfl, rfl⟩
              (refine hK _ _ (fun u hu => by (simp only [List.mem_cons, List.not_mem_nil, or_false] at hu); (first | (subst hu; exact reRun_mk rfl (by first | (go_simp; with_reducible rfl) | (go_simp; done)) (holds_at rfl)) | ((repeat' (first | (rcases hu with rfl | hu) | (subst hu))) <;> exact reRun_mk rfl (by first | (go_simp; with_reducible rfl) | (go_simp; done)) (holds_at rfl)))) ?_; clear hK K; try simp only [Act.put, List.setIfInBounds_toArray, List.set_cons_zero, List.set_cons_succ])
              (repeat (first | (apply can0; (· rfl); (· rfl); (· (intro w'; first | (go_simp; with_reducible rfl) | (go_simp; done))); simp only [Act.put, List.setIfInBounds_toArray, List.set_cons_zero, List.set_cons_succ]) | (apply can1; (· rfl); (· rfl); (· (first | (go_simp; with_reducible rfl) | (go_simp; done))); simp only [Act.put, List.setIfInBounds_toArray, List.set_cons_zero, List.set_cons_succ]) | (apply canN; (· rfl); (· rfl); simp only [Act.put, List.setIfInBounds_toArray, List.set_cons_zero, List.set_cons_succ]) | (apply canN1; (· rfl); (· rfl); simp only [Act.put, List.setIfInBounds_toArray, List.set_cons_zero, List.set_cons_succ]) | (apply can0; (· rfl); (· (go_simp; done)); (· (intro w'; first | (go_simp; with_reducible rfl) | (go_simp; done))); simp only [Act.put, List.setIfInBounds_toArray, List.set_cons_zero, List.set_cons_succ]) | (apply can1; (· rfl); (· (go_simp; done)); (· (first | (go_simp; with_reducible rfl) | (go_simp; done))); simp only [Act.put, List.setIfInBounds_toArray, List.set_cons_zero, List.set_cons_succ]) | (apply canN; (· rfl); (· (go_simp; done)); simp only [Act.put, List.setIfInBounds_toArray, List.set_cons_zero, List.set_cons_succ]) | (apply canN1; (· rfl); (· (go_simp; done)); simp only [Act.put, List.setIfInBounds_toArray, List.set_cons_zero, List.set_cons_succ])))
              refine canW rfl [2, 14, 20, 23, 27, 31, 38, 43] rfl (fun K hK => ?_)
              go_simp
              go_at_call 50
              refine (turn_11 _ _).mono ?_
              rintro e w' ⟨rfl, rfl⟩
              (refine hK _ _ (fun u hu => by (simp only [List.mem_cons, List.not_mem_nil, or_false] at hu); (first | (subst hu; exact reRun_mk rfl (by first | (go_simp; with_reducible rfl) | (go_simp; done)) (holds_at rfl)) | ((repeat' (first | (rcases hu with rfl | hu) | (subst hu))) <;> exact reRun_mk rfl (by first | (go_simp; with_reducible rfl) | (go_simp; done)) (holds_at rfl)))) ?_; clear hK K; try simp only [Act.put, List.setIfInBounds_toArray, List.set_cons_zero, List.set_cons_succ])
              (repeat (first | (apply can0; (· rfl); (· rfl); (· (intro w'; first | (go_simp; with_reducible rfl) | (go_simp; done))); simp only [Act.put, List.setIfInBounds_toArray, List.set_cons_zero, List.set_cons_succ]) | (apply can1; (· rfl); (· rfl); (· (first | (go_simp; with_reducible rfl) | (go_simp; done))); simp only [Act.put, List.setIfInBounds_toArray, List.set_cons_zero, List.set_cons_succ]) | (apply canN; (· rfl); (· rfl); simp only [Act.put, List.setIfInBounds_toArray, List.set_cons_zero, List.set_cons_succ]) | (apply canN1; (· rfl); (· rfl); simp only [Act.put, List.setIfInBounds_toArray, List.set_cons_zero, List.set_cons_succ]) | (apply can0; (· rfl); (· (go_simp; done)); (· (intro w'; first | (go_simp; with_reducible rfl) | (go_simp; done))); simp only [Act.put, List.setIfInBounds_toArray, List.set_cons_zero, List.set_cons_succ]) | (apply can1; (· rfl); (· (go_simp; done)); (· (first | (go_simp; with_reducible rfl) | (go_simp; done))); simp only [Act.put, List.setIfInBounds_toArray, List.set_cons_zero, List.set_cons_succ]) | (apply canN; (· rfl); (· (go_simp; done)); simp only [Act.put, List.setIfInBounds_toArray, List.set_cons_zero, List.set_cons_succ]) | (apply canN1; (· rfl); (· (go_simp; done)); simp only [Act.put, List.setIfInBounds_toArray, List.set_cons_zero, List.set_cons_succ])))
              refine canW rfl [2, 20, 23, 27, 31, 38, 43] rfl (fun K hK => ?_)
              go_simp
              go_at_call 50
              refine (turn_25 _ _).mono ?_
              rintro e w' ⟨rfl, rfl⟩
              (refine hK _ _ (fun u hu => by (simp only [List.mem_cons, List.not_mem_nil, or_false] at hu); (first | (subst hu; exact reRun_mk rfl (by first | (go_simp; with_reducible rfl) | (go_simp; done)) (holds_at rfl)) | ((repeat' (first | (rcases hu with rfl | hu) | (subst hu))) <;> exact reRun_mk rfl (by first | (go_simp; with_reducible rfl) | (go_simp; done)) (holds_at rfl)))) ?_; clear hK K; try simp only [Act.put, List.setIfInBounds_toArray, List.set_cons_zero, List.set_cons_succ])
              (repeat (first | (apply can0; (· rfl); (· rfl); (· (intro w'; first | (go_simp; with_reducible rfl) | (go_simp; done))); simp only [Act.put, List.setIfInBounds_toArray, List.set_cons_zero, List.set_cons_succ]) | (apply can1; (· rfl); (· rfl); (· (first | (go_simp; with_reducible rfl) | (go_simp; done))); simp only [Act.put, List.setIfInBounds_toArray, List.set_cons_zero, List.set_cons_succ]) | (apply canN; (· rfl); (· rfl); simp only [Act.put, List.setIfInBounds_toArray, List.set_cons_zero, List.set_cons_succ]) | (apply canN1; (· rfl); (· rfl); simp only [Act.put, List.setIfInBounds_toArray, List.set_cons_zero, List.set_cons_succ]) | (apply can0; (· rfl); (· (go_simp; done)); (· (intro w'; first | (go_simp; with_reducible rfl) | (go_simp; done))); simp only [Act.put, List.setIfInBounds_toArray, List.set_cons_zero, List.set_cons_succ]) | (apply can1; (· rfl); (· (go_simp; done)); (· (first | (go_simp; with_reducible rfl) | (go_simp; done))); simp only [Act.put, List.setIfInBounds_toArray, List.set_cons_zero, List.set_cons_succ]) | (apply canN; (· rfl); (· (go_simp; done)); simp only [Act.put, List.setIfInBounds_toArray, List.set_cons_zero, List.set_cons_succ]) | (apply canN1; (· rfl); (· (go_simp; done)); simp only [Act.put, List.setIfInBounds_toArray, List.set_cons_zero, List.set_cons_succ])))
              rw [show (if IntKind.u32.signed = true then (-1 : Int) else IntKind.u32.max) = 4294967295 from by decide]
              obtain ⟨one, hone⟩ : ∃ o, IntKind.u32.wrap (IntKind.u32.wrap (IntKind.u32.wrap (IntKind.u32.wrap (h + bits .xor .u32 (bits .xor .u32 (rotR e 6) (rotR e 11)) (rotR e 25)) + bits .xor .u32 (bits .and .u32 e f) (bits .and .u32 (bits .xor .u32 4294967295 e) g)) + k) + x) = o := ⟨_, rfl⟩
              rw [hone]
              have HONE := Lib.hid hone
              clear hone hcw hckr
              refine canE ?_
              go_wp2_with fail
              refine wp_one [2, 6, 11, 16, 19, 23, 26, 31, 34] [3, 7, 12] [(3, [6, 11, 16, 19, 23, 26, 31, 34]), (7, [11, 16, 19, 23, 26, 31, 34]), (12, [16, 19, 23, 26, 31, 34])] [0, 1, 2, 4, 5, 6, 9, 10, 11, 14, 15, 16, 17, 18, 19, 20, 21, 22, 23, 24, 25, 26, 27, 28, 29, 30, 31, 32, 33, 34, 35, 36, 3, 7, 8, 12, 13, 37, 38] rfl (by kernel_rfl) (fun _ _ _ _ _ h => h) ?_; simp only [List.map_cons, List.map_nil, List.getElem?_toArray, List.getElem?_cons_zero, List.getElem?_cons_succ]
              (repeat (first | (apply can0; (· rfl); (· rfl); (· (intro w'; first | (go_simp; with_reducible rfl) | (go_simp; done))); simp only [Act.put, List.setIfInBounds_toArray, List.set_cons_zero, List.set_cons_succ]) | (apply can1; (· rfl); (· rfl); (· (first | (go_simp; with_reducible rfl) | (go_simp; done))); simp only [Act.put, List.setIfInBounds_toArray, List.set_cons_zero, List.set_cons_succ]) | (apply canN; (· rfl); (· rfl); simp only [Act.put, List.setIfInBounds_toArray, List.set_cons_zero, List.set_cons_succ]) | (apply canN1; (· rfl); (· rfl); simp only [Act.put, List.setIfInBounds_toArray, List.set_cons_zero, List.set_cons_succ]) | (apply can0; (· rfl); (· (go_simp; done)); (· (intro w'; first | (go_simp; with_reducible rfl) | (go_simp; done))); simp only [Act.put, List.setIfInBounds_toArray, List.set_cons_zero, List.set_cons_succ]) | (apply can1; (· rfl); (· (go_simp; done)); (· (first | (go_simp; with_reducible rfl) | (go_simp; done))); simp only [Act.put, List.setIfInBounds_toArray, List.set_cons_zero, List.set_cons_succ]) | (apply canN; (· rfl); (· (go_simp; done)); simp only [Act.put, List.setIfInBounds_toArray, List.set_cons_zero, List.set_cons_succ]) | (apply canN1; (· rfl); (· (go_simp; done)); simp only [Act.put, List.setIfInBounds_toArray, List.set_cons_zero, List.set_cons_succ])))
              refine canW rfl [6, 11, 16, 19, 23, 26, 31, 34] rfl (fun K hK => ?_)
              go_simp
              go_at_call 50
              refine (turn_2 _ _).mono ?_
              rintro e w' ⟨rfl, rfl⟩
              (refine hK _ _ (fun u hu => by (simp only [List.mem_cons, List.not_mem_nil, or_false] at hu); (first | (subst hu; exact reRun_mk rfl (by first | (go_simp; with_reducible rfl) | (go_simp; done)) (holds_at rfl)) | ((repeat' (first | (rcases hu with rfl | hu) | (subst hu))) <;> exact reRun_mk rfl (by first | (go_simp; with_reducible rfl) | (go_simp; done)) (holds_at rfl)))) ?_; clear hK K; try simp only [Act.put, List.setIfInBounds_toArray, List.set_cons_zero, List.set_cons_succ])
              (repeat (first | (apply can0; (· rfl); (· rfl); (· (intro w'; first | (go_simp; with_reducible rfl) | (go_simp; done))); simp only [Act.put, List.setIfInBounds_toArray, List.set_cons_zero, List.set_cons_succ]) | (apply can1; (· rfl); (· rfl); (· (first | (go_simp; with_reducible rfl) | (go_simp; done))); simp only [Act.put, List.setIfInBounds_toArray, List.set_cons_zero, List.set_cons_succ]) | (apply canN; (· rfl); (· rfl); simp only [Act.put, List.setIfInBounds_toArray, List.set_cons_zero, List.set_cons_succ]) | (apply canN1; (· rfl); (· rfl); simp only [Act.put, List.setIfInBounds_toArray, List.set_cons_zero, List.set_cons_succ]) | (apply can0; (· rfl); (· (go_simp; done)); (· (intro w'; first | (go_simp; with_reducible rfl) | (go_simp; done))); simp only [Act.put, List.setIfInBounds_toArray, List.set_cons_zero, List.set_cons_succ]) | (apply can1; (· rfl); (· (go_simp; done)); (· (first | (go_simp; with_reducible rfl) | (go_simp; done))); simp only [Act.put, List.setIfInBounds_toArray, List.set_cons_zero, List.set_cons_succ]) | (apply canN; (· rfl); (· (go_simp; done)); simp only [Act.put, List.setIfInBounds_toArray, List.set_cons_zero, List.set_cons_succ]) | (apply canN1; (· rfl); (· (go_simp; done)); simp only [Act.put, List.setIfInBounds_toArray, List.set_cons_zero, List.set_cons_succ])))
              refine canW rfl [11, 16, 19, 23, 26, 31, 34] rfl (fun K hK => ?_)
              go_simp
              go_at_call 50
              refine (turn_13 _ _).mono ?_
              rintro e w' ⟨rfl, rfl⟩
              (refine hK _ _ (fun u hu => by (simp only [List.mem_cons, List.not_mem_nil, or_false] at hu); (first | (subst hu; exact reRun_mk rfl (by first | (go_simp; with_reducible rfl) | (go_simp; done)) (holds_at rfl)) | ((repeat' (first | (rcases hu with rfl | hu) | (subst hu))) <;> exact reRun_mk rfl (by first | (go_simp; with_reducible rfl) | (go_simp; done)) (holds_at rfl)))) ?_; clear hK K; try simp only [Act.put, List.setIfInBounds_toArray, List.set_cons_zero, List.set_cons_succ])
              (repeat (first | (apply can0; (· rfl); (· rfl); (· (intro w'; first | (go_simp; with_reducible rfl) | (go_simp; done))); simp only [Act.put, List.setIfInBounds_toArray, List.set_cons_zero, List.set_cons_succ]) | (apply can1; (· rfl); (· rfl); (· (first | (go_simp; with_reducible rfl) | (go_simp; done))); simp only [Act.put, List.setIfInBounds_toArray, List.set_cons_zero, List.set_cons_succ]) | (apply canN; (· rfl); (· rfl); simp only [Act.put, List.setIfInBounds_toArray, List.set_cons_zero, List.set_cons_succ]) | (apply canN1; (· rfl); (· rfl); simp only [Act.put, List.setIfInBounds_toArray, List.set_cons_zero, List.set_cons_succ]) | (apply can0; (· rfl); (· (go_simp; done)); (· (intro w'; first | (go_simp; with_reducible rfl) | (go_simp; done))); simp only [Act.put, List.setIfInBounds_toArray, List.set_cons_zero, List.set_cons_succ]) | (apply can1; (· rfl); (· (go_simp; done)); (· (first | (go_simp; with_reducible rfl) | (go_simp; done))); simp only [Act.put, List.setIfInBounds_toArray, List.set_cons_zero, List.set_cons_succ]) | (apply canN; (· rfl); (· (go_simp; done)); simp only [Act.put, List.setIfInBounds_toArray, List.set_cons_zero, List.set_cons_succ]) | (apply canN1; (· rfl); (· (go_simp; done)); simp only [Act.put, List.setIfInBounds_toArray, List.set_cons_zero, List.set_cons_succ])))
              refine canW rfl [16, 19, 23, 26, 31, 34] rfl (fun K hK => ?_)
              go_simp
              go_at_call 50
              refine (turn_22 _ _).mono ?_
              rintro e w' ⟨rfl, rfl⟩
              (refine hK _ _ (fun u hu => by (simp only [List.mem_cons, List.not_mem_nil, or_false] at hu); (first | (subst hu; exact reRun_mk rfl (by first | (go_simp; with_reducible rfl) | (go_simp; done)) (holds_at rfl)) | ((repeat' (first | (rcases hu with rfl | hu) | (subst hu))) <;> exact reRun_mk rfl (by first | (go_simp; with_reducible rfl) | (go_simp; done)) (holds_at rfl)))) ?_; clear hK K; try simp only [Act.put, List.setIfInBounds_toArray, List.set_cons_zero, List.set_cons_succ])
              (repeat (first | (apply can0; (· rfl); (· rfl); (· (intro w'; first | (go_simp; with_reducible rfl) | (go_simp; done))); simp only [Act.put, List.setIfInBounds_toArray, List.set_cons_zero, List.set_cons_succ]) | (apply can1; (· rfl); (· rfl); (· (first | (go_simp; with_reducible rfl) | (go_simp; done))); simp only [Act.put, List.setIfInBounds_toArray, List.set_cons_zero, List.set_cons_succ]) | (apply canN; (· rfl); (· rfl); simp only [Act.put, List.setIfInBounds_toArray, List.set_cons_zero, List.set_cons_succ]) | (apply canN1; (· rfl); (· rfl); simp only [Act.put, List.setIfInBounds_toArray, List.set_cons_zero, List.set_cons_succ]) | (apply can0; (· rfl); (· (go_simp; done)); (· (intro w'; first | (go_simp; with_reducible rfl) | (go_simp; done))); simp only [Act.put, List.setIfInBounds_toArray, List.set_cons_zero, List.set_cons_succ]) | (apply can1; (· rfl); (· (go_simp; done)); (· (first | (go_simp; with_reducible rfl) | (go_simp; done))); simp only [Act.put, List.setIfInBounds_toArray, List.set_cons_zero, List.set_cons_succ]) | (apply canN; (· rfl); (· (go_simp; done)); simp only [Act.put, List.setIfInBounds_toArray, List.set_cons_zero, List.set_cons_succ]) | (apply canN1; (· rfl); (· (go_simp; done)); simp only [Act.put, List.setIfInBounds_toArray, List.set_cons_zero, List.set_cons_succ])))
              obtain ⟨two, htwo⟩ : ∃ o, IntKind.u32.wrap (bits .xor .u32 (bits .xor .u32 (rotR a 2) (rotR a 13)) (rotR a 22) + bits .xor .u32 (bits .xor .u32 (bits .and .u32 a b) (bits .and .u32 a c)) (bits .and .u32 b c)) = o := ⟨_, rfl⟩
              rw [htwo]
              have HTWO := Lib.hid htwo
              clear htwo
              refine canE ?_
              obtain ⟨n0, hn0⟩ : ∃ o, IntKind.u32.wrap (one + two) = o := ⟨_, rfl⟩
              obtain ⟨n4, hn4⟩ : ∃ o, IntKind.u32.wrap (d + one) = o := ⟨_, rfl⟩
              go_wp2_with fail
              refine wp_one [5, 8, 11, 14, 19, 22, 25] [26] [] [0, 1, 2, 3, 4, 5, 6, 7, 8, 9, 10, 11, 12, 13, 14, 15, 16, 17, 18, 19, 20, 21, 22, 23, 24, 25, 26, 27] rfl (by kernel_rfl) (fun _ _ _ _ _ h => h) ?_; simp only [List.map_cons, List.map_nil, List.getElem?_toArray, List.getElem?_cons_zero, List.getElem?_cons_succ]
              (repeat (first | (apply can0; (· rfl); (· rfl); (· (intro w'; first | (go_simp; with_reducible rfl) | (go_simp; done))); simp only [Act.put, List.setIfInBounds_toArray, List.set_cons_zero, List.set_cons_succ]) | (apply can1; (· rfl); (· rfl); (· (first | (go_simp; with_reducible rfl) | (go_simp; done))); simp only [Act.put, List.setIfInBounds_toArray, List.set_cons_zero, List.set_cons_succ]) | (apply canN; (· rfl); (· rfl); simp only [Act.put, List.setIfInBounds_toArray, List.set_cons_zero, List.set_cons_succ]) | (apply canN1; (· rfl); (· rfl); simp only [Act.put, List.setIfInBounds_toArray, List.set_cons_zero, List.set_cons_succ]) | (apply can0; (· rfl); (· (go_simp; done)); (· (intro w'; first | (go_simp; with_reducible rfl) | (go_simp; done))); simp only [Act.put, List.setIfInBounds_toArray, List.set_cons_zero, List.set_cons_succ]) | (apply can1; (· rfl); (· (go_simp; done)); (· (first | (go_simp; with_reducible rfl) | (go_simp; done))); simp only [Act.put, List.setIfInBounds_toArray, List.set_cons_zero, List.set_cons_succ]) | (apply canN; (· rfl); (· (go_simp; done)); simp only [Act.put, List.setIfInBounds_toArray, List.set_cons_zero, List.set_cons_succ]) | (apply canN1; (· rfl); (· (go_simp; done)); simp only [Act.put, List.setIfInBounds_toArray, List.set_cons_zero, List.set_cons_succ])))
              refine canW rfl [] rfl (fun K hK => ?_)
              go_simp
              (refine hK _ _ (fun u hu => by cases hu) ?_; clear hK K; try simp only [Act.put, List.setIfInBounds_toArray, List.set_cons_zero, List.set_cons_succ])
              (repeat (first | (apply can0; (· rfl); (· rfl); (· (intro w'; first | (go_simp; with_reducible rfl) | (go_simp; done))); simp only [Act.put, List.setIfInBounds_toArray, List.set_cons_zero, List.set_cons_succ]) | (apply can1; (· rfl); (· rfl); (· (first | (go_simp; with_reducible rfl) | (go_simp; done))); simp only [Act.put, List.setIfInBounds_toArray, List.set_cons_zero, List.set_cons_succ]) | (apply canN; (· rfl); (· rfl); simp only [Act.put, List.setIfInBounds_toArray, List.set_cons_zero, List.set_cons_succ]) | (apply canN1; (· rfl); (· rfl); simp only [Act.put, List.setIfInBounds_toArray, List.set_cons_zero, List.set_cons_succ]) | (apply can0; (· rfl); (· (go_simp; done)); (· (intro w'; first | (go_simp; with_reducible rfl) | (go_simp; done))); simp only [Act.put, List.setIfInBounds_toArray, List.set_cons_zero, List.set_cons_succ]) | (apply can1; (· rfl); (· (go_simp; done)); (· (first | (go_simp; with_reducible rfl) | (go_simp; done))); simp only [Act.put, List.setIfInBounds_toArray, List.set_cons_zero, List.set_cons_succ]) | (apply canN; (· rfl); (· (go_simp; done)); simp only [Act.put, List.setIfInBounds_toArray, List.set_cons_zero, List.set_cons_succ]) | (apply canN1; (· rfl); (· (go_simp; done)); simp only [Act.put, List.setIfInBounds_toArray, List.set_cons_zero, List.set_cons_succ])))
              refine canE ?_
              go_wp2_with fail
              go_roundw
              case rel =>
                have ho := Own.lit wr 72 (wordsV (S8.l ⟨n0, a, b, c, n4, e, f, g⟩)).toArray (by show 8 ≤ 1000; decide)
                refine ⟨i + 1, n0, a, b, c, n4, e, f, g, wr.heap.size, 8, by omega, by go_num, rfl, Lib.hid (World.ownsRow.drew (World.ownsRow.drew (World.ownsRow.drew ho))), Lib.hid HWB.out.lt, Lib.hid ?_, Lib.hid (Blk.drew (Blk.drew (Blk.drew (HWB.out.alloc _)))), Lib.hid (Chg.drew (Chg.drew (Chg.drew (HCH.out.alloc _))))⟩
                rw [HSS.out, HS.out, ← hn0, ← hn4, ← HTWO.out, ← HONE.out]
                rfl
              case measure => simp [intOf]; omega
            · obtain rfl : i = 64 := by omega
              have HFIN : Hid ((mixF s l).l = addN (S8.l ⟨a, b, c, d, e, f, g, h⟩) s.l 8) := Lib.hid (by
                have e1 : rndsF s roundsL (sched l) = ⟨a, b, c, d, e, f, g, h⟩ := by rw [← stN_end (sched_len l)]; exact HS.out
                rw [mixF, e1]
                simp [addN, addS8, S8.l, Int.add_comm])
              obtain ⟨P, hP⟩ : ∃ P, S8.l ⟨a, b, c, d, e, f, g, h⟩ = P := ⟨_, rfl⟩
              obtain ⟨Q, hQ⟩ : ∃ Q, s.l = Q := ⟨_, rfl⟩
              have hPl : P.length = 8 := by rw [← hP]; rfl
              have hQl : Q.length = 8 := by rw [← hQ]; rfl
              rw [hP] at HO
              rw [hP, hQ] at HFIN
              have HQ := Lib.hid hQ
              have HO0 : Hid (Own wr 72 1 (.slice (some ⟨gb, 0, none⟩) 8 cv) 8 (wordsV (addN P Q 0))) := Lib.hid (by rw [addN_zero]; exact HO.out)
              have HPL := Lib.hid hPl
              have HQL := Lib.hid hQl
              clear hP hQ hPl hQl HO HS HWB HK
              go_wp2_with fail
              rw [show ((64 : Nat) : Int) = 64 from rfl]
              go_loopw [16] (fun iv wr => ∃ i : Nat, i ≤ 8 ∧ iv = .int .i64 i ∧ Hid (Own wr 72 1 (.slice (some ⟨gb, 0, none⟩) 8 cv) 8 (wordsV (addN P Q i))) ∧ Hid (Chg w wr nob)) (fun iv _ => 8 - (intOf iv).toNat)
              case atStart => exact ⟨0, by omega, rfl, HO0, HCH⟩
              case round =>
                obtain ⟨i, hi, rfl, HO, HC5⟩ := hrel
                clear HO0 HCH
                by_cases hil : i < 8
                · have hii : (i : Int) < 8 := by omega
                  have hi0 : (0 : Int) ≤ (i : Int) := by omega
                  have hq : wr.cell? ⟨gb, i, none⟩ = some (.int .u32 (P.getD i 0)) := by
                    rw [HO.out.cellAt i (by omega), wordsV, List.getElem?_map, addN_at (by rw [HPL.out]; exact hil) (by rw [HQL.out]; exact hil)]; rfl
                  obtain ⟨cur, hcur⟩ := HO.out.row (k := gb) rfl
                  have hf := hcur.free i
                  obtain ⟨gh, oh, rfl, hch2⟩ := HH.out.cell (j := i) (u := .int .u32 (Q.getD i 0)) (by rw [HQ.out]; simp [wordsV, List.getD, show i < Q.length by rw [HQL.out]; exact hil])
                  have hchr := HC5.out.cell hch2 id
                  have hst := (HO.out.stored i (.int .u32 (wu (P.getD i 0 + Q.getD i 0)))).1
                  rw [show (wordsV (addN P Q i)).set i (.int .u32 (wu (P.getD i 0 + Q.getD i 0))) = wordsV (addN P Q (i + 1)) from by rw [← addN_set (by rw [HPL.out]; exact hil) (by rw [HQL.out]; exact hil)]; simp [wordsV, List.map_set]] at hst
                  have HST := Lib.hid hst
                  have HC6 : Hid (Chg w (wr.setCell ⟨gb, i, none⟩ (.int .u32 (wu (P.getD i 0 + Q.getD i 0)))) nob) := Lib.hid (HC5.out.setCell (.inr (Nat.le_of_lt HG.out)) _)
                  obtain ⟨x, hx⟩ : ∃ x, P.getD i 0 = x := ⟨_, rfl⟩
                  obtain ⟨y, hy⟩ : ∃ y, Q.getD i 0 = y := ⟨_, rfl⟩
                  rw [hx] at hq HST HC6
                  rw [hy] at hchr HST HC6
                  clear hst hx hy hcur hch2
                  go_wp2_with fail
                  refine wp_one [3, 7] [10] [] [0, 1, 2, 3, 4, 5, 6, 7, 8, 9, 10] rfl (by kernel_rfl) (fun _ _ _ _ _ h => h) ?_; simp only [List.map_cons, List.map_nil, List.getElem?_toArray, List.getElem?_cons_zero, List.getElem?_cons_succ]
                  (repeat (first | (apply can0; (· rfl); (· rfl); (· (intro w'; first | (go_simp; with_reducible rfl) | (go_simp; done))); simp only [Act.put, List.setIfInBounds_toArray, List.set_cons_zero, List.set_cons_succ]) | (apply can1; (· rfl); (· rfl); (· (first | (go_simp; with_reducible rfl) | (go_simp; done))); simp only [Act.put, List.setIfInBounds_toArray, List.set_cons_zero, List.set_cons_succ]) | (apply canN; (· rfl); (· rfl); simp only [Act.put, List.setIfInBounds_toArray, List.set_cons_zero, List.set_cons_succ]) | (apply canN1; (· rfl); (· rfl); simp only [Act.put, List.setIfInBounds_toArray, List.set_cons_zero, List.set_cons_succ]) | (apply can0; (· rfl); (· (go_simp; done)); (· (intro w'; first | (go_simp; with_reducible rfl) | (go_simp; done))); simp only [Act.put, List.setIfInBounds_toArray, List.set_cons_zero, List.set_cons_succ]) | (apply can1; (· rfl); (· (go_simp; done)); (· (first | (go_simp; with_reducible rfl) | (go_simp; done))); simp only [Act.put, List.setIfInBounds_toArray, List.set_cons_zero, List.set_cons_succ]) | (apply canN; (· rfl); (· (go_simp; done)); simp only [Act.put, List.setIfInBounds_toArray, List.set_cons_zero, List.set_cons_succ]) | (apply canN1; (· rfl); (· (go_simp; done)); simp only [Act.put, List.setIfInBounds_toArray, List.set_cons_zero, List.set_cons_succ])))
                  refine canW rfl [] rfl (fun K hK => ?_)
                  go_simp
                  (refine hK _ _ (fun u hu => by cases hu) ?_; clear hK K; try simp only [Act.put, List.setIfInBounds_toArray, List.set_cons_zero, List.set_cons_succ])
                  refine canE ?_
                  go_wp2
                  go_roundw
                  case rel => exact ⟨i + 1, by omega, by go_num, Lib.hid (World.ownsRow.drew HST.out), Lib.hid HC6.out.drew⟩
                  case measure => simp [intOf]; omega
                · obtain rfl : i = 8 := by omega
                  go_wp2
                  go_ret
                  exact ⟨_, rfl, by rw [HFIN.out]; exact HO.out, HC5.out, fun k hk => by cases hk; exact Nat.le_of_lt HG.out⟩
end Go.Proofs.YtcgdmidjejmjhaaDoor
