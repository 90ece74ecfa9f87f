
/-
  Package mac: spread.
-/
import Derived.Test.YtcgdmidjejmjhaaDoorMac2
import Derived.Test.YtcgdmidjejmjhaaDoorCopy
namespace Go.Proofs.YtcgdmidjejmjhaaDoor
open Go.RowKit
set_option linter.unusedVariables false
set_option linter.unusedSimpArgs false

theorem words_cell {w : World} {b : Nat} {t : TypeId} {W : List Int} (h : Blk w b t (wordsV W).toArray) {j : Nat} {x : Int} (hj : W[j]? = some x) : w.cell? ⟨b, j, none⟩ = some (.int .u32 x) := by
  rw [h.cell]; simp [wordsV, hj]
theorem words_set {w : World} {b : Nat} {t : TypeId} {W : List Int} (h : Blk w b t (wordsV W).toArray) (j : Nat) (x : Int) : Blk (w.setCell ⟨b, j, none⟩ (.int .u32 x)) b t (wordsV (W.set j x)).toArray := by
  have := h.set j (.int .u32 x)
  simpa [wordsV, List.map_set] using this
theorem words_one (W : List Int) : (wordsV W).toArray.all (·.oneCell') = true := by
  rw [Array.all_eq_true_iff_forall_mem]
  intro v hv
  simp [wordsV] at hv
  obtain ⟨x, _, rfl⟩ := hv
  rfl
theorem wsofar_full {W : List Int} (h : W.length = 64) : wsofar W = W := by simp [wsofar, h]
theorem Chg.setRow {a w : World} {F : Nat → Prop} {g : Nat} (h : Chg a w F) (hp : F g ∨ a.heap.size ≤ g) (cs : Array Value) : Chg a (w.setRow g cs) F :=
  h.trans (G := fun k => k = g) (Chg.row w g cs) (fun i hi e => by subst e; rcases hp with hp | hp; exact hp; omega)
theorem Blk.setRow {w : World} {b : Nat} {t : TypeId} {cs : Array Value} (h : Blk w b t cs) (A : Array Value) : Blk (w.setRow b A) b t A := setRow_heap w b cs _ t _ h
def arrV (W : List Int) : Value := .agg (wordsV W).toArray
set_option maxRecDepth 100000 in
set_option maxHeartbeats 8000000 in
theorem spread_any (w : World) (va : Value) (l : List Int) (ha : Rd w 1 va l.length (bytesV l)) (hb : ∀ x ∈ l, 0 ≤ x ∧ x ≤ 255) (hl : l.length = 64) :
    Calls Tryd.prog 47 #[va] w fun e w' => e = .returned (arrV (sched l)) ∧ Chg w w' nob := by
  obtain ⟨a1, c1, rfl, hn1, _⟩ := ha.form
  have HC := Lib.hid ha
  have HL := Lib.hid hl
  have HBY := Lib.hid hb
  rw [hl] at hn1 ⊢
  clear ha hb
  go_enter Tryd.func47, Tryd.ntmps47
  go_wp2
  generalize hwz : World.alloc (World.alloc w _) _ = wz
  have hbr : Blk wz w.heap.size 82 (wordsV (List.replicate 64 0)).toArray := by rw [← hwz]; exact (Blk.new w _ _).alloc _
  have hbw : Blk wz (w.heap.size + 1) 82 (wordsV (pws l 0)).toArray := by
    rw [← hwz, pws_zero]
    have h := Blk.new (w.alloc (.cells (wordsV (List.replicate 64 0)).toArray 82)) 82 (wordsV (List.replicate 64 0)).toArray
    have e : (w.alloc (.cells (wordsV (List.replicate 64 0)).toArray 82)).heap.size = w.heap.size + 1 := Array.size_push _
    rw [e] at h
    exact h
  have hcz : Chg w wz nob := by rw [← hwz]; exact ((Chg.refl w nob).alloc _).alloc _
  have HBR := Lib.hid hbr
  have HBW := Lib.hid hbw
  have HCZ := Lib.hid hcz
  clear hwz hbr hbw hcz
  go_loopw [4, 5, 11] (fun _ _ iv wr => ∃ i : Nat, i ≤ 64 ∧ iv = .int .i64 i ∧ Hid (Blk wr w.heap.size 82 (wordsV (List.replicate 64 0)).toArray) ∧ Hid (Blk wr (w.heap.size + 1) 82 (wordsV (pws l i)).toArray) ∧ Hid (Chg w wr nob)) (fun _ _ iv _ => 64 - (intOf iv).toNat)
  case atStart => exact ⟨0, by omega, rfl, HBR, HBW, HCZ⟩
  case round =>
    obtain ⟨i, hi, rfl, HR, HW, HCH⟩ := hrel
    by_cases hil : i < 64
    · have hii : (i : Int) < 64 := by omega
      have hi0 : (0 : Int) ≤ (i : Int) := by omega
      obtain ⟨g, o, rfl, hcx⟩ := HC.out.cell (j := i) (u := .int .u8 (l.getD i 0)) (by simp [bytesV, List.getD, show i < l.length by omega])
      have hcr := HCH.out.cell hcx id
      have hcb : 0 ≤ l.getD i 0 ∧ l.getD i 0 ≤ 255 := HBY.out _ (by rw [show l.getD i 0 = l[i] by simp [List.getD, show i < l.length by omega]]; exact List.getElem_mem _)
      have hpb := pw_b i HBY.out
      obtain ⟨q, hq⟩ : ∃ q, i / 4 = q := ⟨_, rfl⟩
      have hq1 : Int.tdiv (i : Int) 4 = (q : Int) := by rw [Int.tdiv_eq_ediv_of_nonneg (by omega)]; omega
      have hq2 : (i : Int) / 4 = (q : Int) := by omega
      have hq3 : (q : Int) < 64 := by omega
      have hq4 : (0 : Int) ≤ (q : Int) := by omega
      have hwc := words_cell HW.out (j := q) (pws_at (l := l) (i := i) (by omega))
      have hfr := HW.out.free q
      have hst := words_set HW.out q (pw l i q * 256 + l.getD i 0)
      rw [hq] at hpb
      have hps := pws_step (l := l) (i := i) (by rw [HL.out]; exact hil) hil
      rw [hq] at hps
      rw [hps] at hst
      have HST := Lib.hid hst
      have HRS := Lib.hid (HR.out.other (p := ⟨w.heap.size + 1, q, none⟩) (by simp) (.int .u32 (pw l i q * 256 + l.getD i 0)))
      have HCS : Hid (Chg w (wr.setCell ⟨w.heap.size + 1, q, none⟩ (.int .u32 (pw l i q * 256 + l.getD i 0))) nob) := Lib.hid (HCH.out.setCell (.inr (by simp)) _)
      obtain ⟨c, hc⟩ : ∃ c, l.getD i 0 = c := ⟨_, rfl⟩
      obtain ⟨p, hp⟩ : ∃ p, pw l i q = p := ⟨_, rfl⟩
      rw [hc, hp] at HST HRS HCS
      rw [hc] at hcr hcb
      rw [hp] at hpb hwc
      obtain ⟨hc0, hc1⟩ := hcb
      obtain ⟨hp0, hp1⟩ := hpb
      have hw1 : IntKind.u32.wrap (p * 256) = p * 256 := wrp_u32 _ (by omega) (by omega)
      have hw2 : IntKind.u32.wrap c = c := wrp_u32 _ (by omega) (by omega)
      have hor := u32_or8 p c hp0 hp1 hc0 (by omega)
      clear hcx hst hps hq hc hp
      go_wp2
      go_roundw
      case rel => exact ⟨i + 1, by omega, by go_num, HRS, HST, HCS⟩
      case measure => simp [intOf]; omega
    · obtain rfl : i = 64 := by omega
      rw [pws_end HL.out] at HW
      clear HBW
      have hsl : (first16 l).length = 16 := by simp [first16]
      have HSL := Lib.hid hsl
      clear hsl
      go_wp2
      rw [show ((64 : Nat) : Int) = 64 from rfl]
      go_loopw [6, 7, 8] (fun iv _ _ wr => ∃ i : Nat, 16 ≤ i ∧ i ≤ 64 ∧ iv = .int .i64 i ∧ Hid (Blk wr w.heap.size 82 (wordsV (List.replicate 64 0)).toArray) ∧ Hid (Blk wr (w.heap.size + 1) 82 (wordsV (wsofar (extF (i - 16) (first16 l)))).toArray) ∧ Hid (Chg w wr nob)) (fun iv _ _ _ => 64 - (intOf iv).toNat)
      case atStart => exact ⟨16, by omega, by omega, rfl, HR, HW, HCH⟩
      case round =>
        obtain ⟨i, hi1, hi2, rfl, HR2, HW2, HC2⟩ := hrel
        clear HR HW HCH
        have HEL : Hid ((extF (i - 16) (first16 l)).length = i) := Lib.hid (by rw [extF_len, HSL.out]; omega)
        by_cases hil2 : i < 64
        · have hii : (i : Int) < 64 := by omega
          have hexs : extF (i + 1 - 16) (first16 l) = extF (i - 16) (first16 l) ++ [nextW (extF (i - 16) (first16 l))] := by rw [show i + 1 - 16 = (i - 16) + 1 by omega, extF_succ]
          have HEX := Lib.hid hexs
          obtain ⟨W, hW⟩ : ∃ W, extF (i - 16) (first16 l) = W := ⟨_, rfl⟩
          rw [hW] at HW2 HEL HEX
          clear hexs hW
          obtain ⟨p16, hp16⟩ : ∃ p, i - 16 = p := ⟨_, rfl⟩
          obtain ⟨p15, hp15⟩ : ∃ p, i - 15 = p := ⟨_, rfl⟩
          obtain ⟨p7, hp7⟩ : ∃ p, i - 7 = p := ⟨_, rfl⟩
          obtain ⟨p2, hp2⟩ : ∃ p, i - 2 = p := ⟨_, rfl⟩
          have v16 : IntKind.i64.wrap ((i : Int) - 16) = (p16 : Int) := by rw [show (i : Int) - 16 = (p16 : Int) by omega]; simp only [IntKind.wrap, IntKind.bits, IntKind.signed]; simp; omega
          have v15 : IntKind.i64.wrap ((i : Int) - 15) = (p15 : Int) := by rw [show (i : Int) - 15 = (p15 : Int) by omega]; simp only [IntKind.wrap, IntKind.bits, IntKind.signed]; simp; omega
          have v7 : IntKind.i64.wrap ((i : Int) - 7) = (p7 : Int) := by rw [show (i : Int) - 7 = (p7 : Int) by omega]; simp only [IntKind.wrap, IntKind.bits, IntKind.signed]; simp; omega
          have v2 : IntKind.i64.wrap ((i : Int) - 2) = (p2 : Int) := by rw [show (i : Int) - 2 = (p2 : Int) by omega]; simp only [IntKind.wrap, IntKind.bits, IntKind.signed]; simp; omega
          have b16 : (0 : Int) ≤ (p16 : Int) ∧ (p16 : Int) < 64 := by omega
          have b15 : (0 : Int) ≤ (p15 : Int) ∧ (p15 : Int) < 64 := by omega
          have b7 : (0 : Int) ≤ (p7 : Int) ∧ (p7 : Int) < 64 := by omega
          have b2 : (0 : Int) ≤ (p2 : Int) ∧ (p2 : Int) < 64 := by omega
          have hib : (0 : Int) ≤ (i : Int) ∧ (i : Int) < 64 := by omega
          obtain ⟨b16, b16'⟩ := b16
          obtain ⟨b15, b15'⟩ := b15
          obtain ⟨b7, b7'⟩ := b7
          obtain ⟨b2, b2'⟩ := b2
          obtain ⟨hib, hib'⟩ := hib
          have c16 := words_cell HW2.out (wsofar_at (j := p16) (by rw [HEL.out]; omega))
          have c15 := words_cell HW2.out (wsofar_at (j := p15) (by rw [HEL.out]; omega))
          have c7 := words_cell HW2.out (wsofar_at (j := p7) (by rw [HEL.out]; omega))
          have c2 := words_cell HW2.out (wsofar_at (j := p2) (by rw [HEL.out]; omega))
          have ci := words_cell HW2.out (j := i) (x := 0) (by rw [wsofar, List.getElem?_append_right (by rw [HEL.out]; omega), HEL.out, List.getElem?_replicate, if_pos (by omega)])
          have cf := HW2.out.free i
          obtain ⟨x16, h16⟩ : ∃ x, W.getD p16 0 = x := ⟨_, rfl⟩
          obtain ⟨x15, h15⟩ : ∃ x, W.getD p15 0 = x := ⟨_, rfl⟩
          obtain ⟨x7, h7⟩ : ∃ x, W.getD p7 0 = x := ⟨_, rfl⟩
          obtain ⟨x2, h2⟩ : ∃ x, W.getD p2 0 = x := ⟨_, rfl⟩
          have HNX : Hid (nextW W = wu (wu (wu (x16 + xo (xo (rotR x15 7) (rotR x15 18)) (x15 / 8)) + x7) + xo (xo (rotR x2 17) (rotR x2 19)) (x2 / 1024))) := Lib.hid (by
            rw [← h16, ← h15, ← h7, ← h2]
            unfold nextW
            simp only [HEL.out, hp16, hp15, hp7, hp2])
          rw [h16] at c16
          rw [h15] at c15
          rw [h7] at c7
          rw [h2] at c2
          clear h16 h15 h7 h2 hp16 hp15 hp7 hp2
          go_wp2_with fail
          refine wp_one [3, 7] [] [] [0, 1, 2, 3, 4, 5, 6, 7, 8, 9] rfl (by kernel_rfl) (fun _ _ _ _ _ h => h) ?_; simp only [List.map_cons, List.map_nil, List.getElem?_toArray, List.getElem?_cons_zero, List.getElem?_cons_succ]
          (repeat (first | (apply can0; (· rfl); (· rfl); (· (intro w'; first | (go_simp; with_reducible rfl) | (go_simp; done))); simp only [Act.put, List.setIfInBounds_toArray, List.set_cons_zero, List.set_cons_succ]) | (apply can1; (· rfl); (· rfl); (· (first | (go_simp; with_reducible rfl) | (go_simp; done))); simp only [Act.put, List.setIfInBounds_toArray, List.set_cons_zero, List.set_cons_succ]) | (apply canN; (· rfl); (· rfl); simp only [Act.put, List.setIfInBounds_toArray, List.set_cons_zero, List.set_cons_succ]) | (apply canN1; (· rfl); (· rfl); simp only [Act.put, List.setIfInBounds_toArray, List.set_cons_zero, List.set_cons_succ]) | (apply can0; (· rfl); (· (go_simp; done)); (· (intro w'; first | (go_simp; with_reducible rfl) | (go_simp; done))); simp only [Act.put, List.setIfInBounds_toArray, List.set_cons_zero, List.set_cons_succ]) | (apply can1; (· rfl); (· (go_simp; done)); (· (first | (go_simp; with_reducible rfl) | (go_simp; done))); simp only [Act.put, List.setIfInBounds_toArray, List.set_cons_zero, List.set_cons_succ]) | (apply canN; (· rfl); (· (go_simp; done)); simp only [Act.put, List.setIfInBounds_toArray, List.set_cons_zero, List.set_cons_succ]) | (apply canN1; (· rfl); (· (go_simp; done)); simp only [Act.put, List.setIfInBounds_toArray, List.set_cons_zero, List.set_cons_succ])))
          refine canE ?_
          go_wp2_with fail
          refine wp_one [4, 17] [6, 8, 20, 22, 29] [(6, [4, 17]), (8, [4, 17]), (20, [4, 17]), (22, [4, 17])] [0, 1, 2, 3, 4, 5, 7, 10, 11, 14, 15, 16, 17, 19, 21, 24, 25, 6, 8, 9, 12, 13, 18, 20, 22, 23, 26, 27, 28, 29] rfl (by kernel_rfl) (fun _ _ _ _ _ h => h) ?_; simp only [List.map_cons, List.map_nil, List.getElem?_toArray, List.getElem?_cons_zero, List.getElem?_cons_succ]
          (repeat (first | (apply can0; (· rfl); (· rfl); (· (intro w'; first | (go_simp; with_reducible rfl) | (go_simp; done))); simp only [Act.put, List.setIfInBounds_toArray, List.set_cons_zero, List.set_cons_succ]) | (apply can1; (· rfl); (· rfl); (· (first | (go_simp; with_reducible rfl) | (go_simp; done))); simp only [Act.put, List.setIfInBounds_toArray, List.set_cons_zero, List.set_cons_succ]) | (apply canN; (· rfl); (· rfl); simp only [Act.put, List.setIfInBounds_toArray, List.set_cons_zero, List.set_cons_succ]) | (apply canN1; (· rfl); (· rfl); simp only [Act.put, List.setIfInBounds_toArray, List.set_cons_zero, List.set_cons_succ]) | (apply can0; (· rfl); (· (go_simp; done)); (· (intro w'; first | (go_simp; with_reducible rfl) | (go_simp; done))); simp only [Act.put, List.setIfInBounds_toArray, List.set_cons_zero, List.set_cons_succ]) | (apply can1; (· rfl); (· (go_simp; done)); (· (first | (go_simp; with_reducible rfl) | (go_simp; done))); simp only [Act.put, List.setIfInBounds_toArray, List.set_cons_zero, List.set_cons_succ]) | (apply canN; (· rfl); (· (go_simp; done)); simp only [Act.put, List.setIfInBounds_toArray, List.set_cons_zero, List.set_cons_succ]) | (apply canN1; (· rfl); (· (go_simp; done)); simp only [Act.put, List.setIfInBounds_toArray, List.set_cons_zero, List.set_cons_succ])))
          refine canW rfl [4, 17] rfl (fun K hK => ?_)
          go_simp
          go_at_call 48
          refine (right_7 _ _).mono ?_
          rintro e w' ⟨rfl, rfl⟩
          (refine hK _ _ (fun u hu => by (simp only [List.mem_cons, List.not_mem_nil, or_false] at hu); (first | (subst hu; exact reRun_mk rfl (by first | (go_simp; with_reducible rfl) | (go_simp; done)) (holds_at rfl)) | ((repeat' (first | (rcases hu with rfl | hu) | (subst hu))) <;> exact reRun_mk rfl (by first | (go_simp; with_reducible rfl) | (go_simp; done)) (holds_at rfl)))) ?_; clear hK K; try simp only [Act.put, List.setIfInBounds_toArray, List.set_cons_zero, List.set_cons_succ])
          (repeat (first | (apply can0; (· rfl); (· rfl); (· (intro w'; first | (go_simp; with_reducible rfl) | (go_simp; done))); simp only [Act.put, List.setIfInBounds_toArray, List.set_cons_zero, List.set_cons_succ]) | (apply can1; (· rfl); (· rfl); (· (first | (go_simp; with_reducible rfl) | (go_simp; done))); simp only [Act.put, List.setIfInBounds_toArray, List.set_cons_zero, List.set_cons_succ]) | (apply canN; (· rfl); (· rfl); simp only [Act.put, List.setIfInBounds_toArray, List.set_cons_zero, List.set_cons_succ]) | (apply canN1; (· rfl); (· rfl); simp only [Act.put, List.setIfInBounds_toArray, List.set_cons_zero, List.set_cons_succ]) | (apply can0; (· rfl); (· (go_simp; done)); (· (intro w'; first | (go_simp; with_reducible rfl) | (go_simp; done))); simp only [Act.put, List.setIfInBounds_toArray, List.set_cons_zero, List.set_cons_succ]) | (apply can1; (· rfl); (· (go_simp; done)); (· (first | (go_simp; with_reducible rfl) | (go_simp; done))); simp only [Act.put, List.setIfInBounds_toArray, List.set_cons_zero, List.set_cons_succ]) | (apply canN; (· rfl); (· (go_simp; done)); simp only [Act.put, List.setIfInBounds_toArray, List.set_cons_zero, List.set_cons_succ]) | (apply canN1; (· rfl); (· (go_simp; done)); simp only [Act.put, List.setIfInBounds_toArray, List.set_cons_zero, List.set_cons_succ])))
          refine canW rfl [4, 17] rfl (fun K hK => ?_)
          go_simp
          go_at_call 48
          refine (right_18 _ _).mono ?_
          rintro e w' ⟨rfl, rfl⟩
          (refine hK _ _ (fun u hu => by (simp only [List.mem_cons, List.not_mem_nil, or_false] at hu); (first | (subst hu; exact reRun_mk rfl (by first | (go_simp; with_reducible rfl) | (go_simp; done)) (holds_at rfl)) | ((repeat' (first | (rcases hu with rfl | hu) | (subst hu))) <;> exact reRun_mk rfl (by first | (go_simp; with_reducible rfl) | (go_simp; done)) (holds_at rfl)))) ?_; clear hK K; try simp only [Act.put, List.setIfInBounds_toArray, List.set_cons_zero, List.set_cons_succ])
          (repeat (first | (apply can0; (· rfl); (· rfl); (· (intro w'; first | (go_simp; with_reducible rfl) | (go_simp; done))); simp only [Act.put, List.setIfInBounds_toArray, List.set_cons_zero, List.set_cons_succ]) | (apply can1; (· rfl); (· rfl); (· (first | (go_simp; with_reducible rfl) | (go_simp; done))); simp only [Act.put, List.setIfInBounds_toArray, List.set_cons_zero, List.set_cons_succ]) | (apply canN; (· rfl); (· rfl); simp only [Act.put, List.setIfInBounds_toArray, List.set_cons_zero, List.set_cons_succ]) | (apply canN1; (· rfl); (· rfl); simp only [Act.put, List.setIfInBounds_toArray, List.set_cons_zero, List.set_cons_succ]) | (apply can0; (· rfl); (· (go_simp; done)); (· (intro w'; first | (go_simp; with_reducible rfl) | (go_simp; done))); simp only [Act.put, List.setIfInBounds_toArray, List.set_cons_zero, List.set_cons_succ]) | (apply can1; (· rfl); (· (go_simp; done)); (· (first | (go_simp; with_reducible rfl) | (go_simp; done))); simp only [Act.put, List.setIfInBounds_toArray, List.set_cons_zero, List.set_cons_succ]) | (apply canN; (· rfl); (· (go_simp; done)); simp only [Act.put, List.setIfInBounds_toArray, List.set_cons_zero, List.set_cons_succ]) | (apply canN1; (· rfl); (· (go_simp; done)); simp only [Act.put, List.setIfInBounds_toArray, List.set_cons_zero, List.set_cons_succ])))
          refine canW rfl [4, 17] rfl (fun K hK => ?_)
          go_simp
          go_at_call 48
          refine (right_17 _ _).mono ?_
          rintro e w' ⟨rfl, rfl⟩
          (refine hK _ _ (fun u hu => by (simp only [List.mem_cons, List.not_mem_nil, or_false] at hu); (first | (subst hu; exact reRun_mk rfl (by first | (go_simp; with_reducible rfl) | (go_simp; done)) (holds_at rfl)) | ((repeat' (first | (rcases hu with rfl | hu) | (subst hu))) <;> exact reRun_mk rfl (by first | (go_simp; with_reducible rfl) | (go_simp; done)) (holds_at rfl)))) ?_; clear hK K; try simp only [Act.put, List.setIfInBounds_toArray, List.set_cons_zero, List.set_cons_succ])
          (repeat (first | (apply can0; (· rfl); (· rfl); (· (intro w'; first | (go_simp; with_reducible rfl) | (go_simp; done))); simp only [Act.put, List.setIfInBounds_toArray, List.set_cons_zero, List.set_cons_succ]) | (apply can1; (· rfl); (· rfl); (· (first | (go_simp; with_reducible rfl) | (go_simp; done))); simp only [Act.put, List.setIfInBounds_toArray, List.set_cons_zero, List.set_cons_succ]) | (apply canN; (· rfl); (· rfl); simp only [Act.put, List.setIfInBounds_toArray, List.set_cons_zero, List.set_cons_succ]) | (apply canN1; (· rfl); (· rfl); simp only [Act.put, List.setIfInBounds_toArray, List.set_cons_zero, List.set_cons_succ]) | (apply can0; (· rfl); (· (go_simp; done)); (· (intro w'; first | (go_simp; with_reducible rfl) | (go_simp; done))); simp only [Act.put, List.setIfInBounds_toArray, List.set_cons_zero, List.set_cons_succ]) | (apply can1; (· rfl); (· (go_simp; done)); (· (first | (go_simp; with_reducible rfl) | (go_simp; done))); simp only [Act.put, List.setIfInBounds_toArray, List.set_cons_zero, List.set_cons_succ]) | (apply canN; (· rfl); (· (go_simp; done)); simp only [Act.put, List.setIfInBounds_toArray, List.set_cons_zero, List.set_cons_succ]) | (apply canN1; (· rfl); (· (go_simp; done)); simp only [Act.put, List.setIfInBounds_toArray, List.set_cons_zero, List.set_cons_succ])))
          refine canW rfl [4, 17] rfl (fun K hK => ?_)
          go_simp
          go_at_call 48
          refine (right_19 _ _).mono ?_
          rintro e w' ⟨rfl, rfl⟩
          (refine hK _ _ (fun u hu => by (simp only [List.mem_cons, List.not_mem_nil, or_false] at hu); (first | (subst hu; exact reRun_mk rfl (by first | (go_simp; with_reducible rfl) | (go_simp; done)) (holds_at rfl)) | ((repeat' (first | (rcases hu with rfl | hu) | (subst hu))) <;> exact reRun_mk rfl (by first | (go_simp; with_reducible rfl) | (go_simp; done)) (holds_at rfl)))) ?_; clear hK K; try simp only [Act.put, List.setIfInBounds_toArray, List.set_cons_zero, List.set_cons_succ])
          (repeat (first | (apply can0; (· rfl); (· rfl); (· (intro w'; first | (go_simp; with_reducible rfl) | (go_simp; done))); simp only [Act.put, List.setIfInBounds_toArray, List.set_cons_zero, List.set_cons_succ]) | (apply can1; (· rfl); (· rfl); (· (first | (go_simp; with_reducible rfl) | (go_simp; done))); simp only [Act.put, List.setIfInBounds_toArray, List.set_cons_zero, List.set_cons_succ]) | (apply canN; (· rfl); (· rfl); simp only [Act.put, List.setIfInBounds_toArray, List.set_cons_zero, List.set_cons_succ]) | (apply canN1; (· rfl); (· rfl); simp only [Act.put, List.setIfInBounds_toArray, List.set_cons_zero, List.set_cons_succ]) | (apply can0; (· rfl); (· (go_simp; done)); (· (intro w'; first | (go_simp; with_reducible rfl) | (go_simp; done))); simp only [Act.put, List.setIfInBounds_toArray, List.set_cons_zero, List.set_cons_succ]) | (apply can1; (· rfl); (· (go_simp; done)); (· (first | (go_simp; with_reducible rfl) | (go_simp; done))); simp only [Act.put, List.setIfInBounds_toArray, List.set_cons_zero, List.set_cons_succ]) | (apply canN; (· rfl); (· (go_simp; done)); simp only [Act.put, List.setIfInBounds_toArray, List.set_cons_zero, List.set_cons_succ]) | (apply canN1; (· rfl); (· (go_simp; done)); simp only [Act.put, List.setIfInBounds_toArray, List.set_cons_zero, List.set_cons_succ])))
          refine canW rfl [] rfl (fun K hK => ?_)
          go_simp
          (refine hK _ _ (fun u hu => by cases hu) ?_; clear hK K; try simp only [Act.put, List.setIfInBounds_toArray, List.set_cons_zero, List.set_cons_succ])
          refine canE ?_
          go_wp2
          have hst := words_set HW2.out i (nextW W)
          rw [show (wsofar W).set i (nextW W) = wsofar (W ++ [nextW W]) from by rw [← HEL.out, wsofar_step (by rw [HEL.out]; omega)], ← HEX.out] at hst
          have hrs := HR2.out.other (p := ⟨w.heap.size + 1, i, none⟩) (by simp) (.int .u32 (nextW W))
          have hcs : Chg w (wr.setCell ⟨w.heap.size + 1, i, none⟩ (.int .u32 (nextW W))) nob := HC2.out.setCell (.inr (by simp)) _
          rw [HNX.out] at hst hrs hcs
          go_roundw
          case rel => exact ⟨i + 1, by omega, by omega, by go_num, Lib.hid (Blk.drew (Blk.drew hrs)), Lib.hid (Blk.drew (Blk.drew hst)), Lib.hid hcs.drew.drew⟩
          case measure => simp [intOf]; omega
        · obtain rfl : i = 64 := by omega
          have hA0 : (wordsV (wsofar (extF (64 - 16) (first16 l)))).toArray = (wordsV (sched l)).toArray := by
            rw [show 64 - 16 = 48 from rfl, show sched l = extF 48 (first16 l) from rfl, wsofar_full HEL.out]
          have hAs : (wordsV (sched l)).toArray.size = 64 := by simp [wordsV]; exact HEL.out
          have hA1 := words_one (sched l)
          rw [hA0] at HW2
          have HAV : Hid (arrV (sched l) = .agg (wordsV (sched l)).toArray) := Lib.hid rfl
          obtain ⟨A, hA⟩ : ∃ A, (wordsV (sched l)).toArray = A := ⟨_, rfl⟩
          rw [hA] at HW2 hAs hA1 HAV
          clear hA0 hA HEL
          have hsz : (Tryd.prog.info? 82).map (·.size) = some A.size := by rw [hAs]; kernel_rfl
          have hso : (wordsV (List.replicate 64 0)).toArray.size = A.size := by rw [hAs]; rfl
          have hun : Tryd.prog.underlying 82 = some (.array 64 72) := by kernel_rfl
          obtain ⟨Z, hZ⟩ : ∃ Z, (wordsV (List.replicate 64 0)).toArray = Z := ⟨_, rfl⟩
          rw [hZ] at HR2 hso
          clear hZ
          go_wp2_with (first | refine wpList_load_row rfl 82 _ rfl (w.heap.size + 1) rfl 82 A (0, 0) _ HW2.out hun rfl hsz ?_ | refine wpList_store_row rfl 82 _ _ rfl w.heap.size A rfl rfl 82 Z HR2.out hsz hso hA1 ?_)
          refine bodyPost_ret (results_cell_row rfl _ _ w.heap.size 82 A (0, 0) _ rfl (Blk.setRow HR2.out A) hun rfl hsz) rfl ?_
          exact ⟨by rw [HAV.out], HC2.out.setRow (.inr (Nat.le_refl _)) A⟩
end Go.Proofs.YtcgdmidjejmjhaaDoor
