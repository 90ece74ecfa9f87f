
/-
  Package mac: Sum.
-/
import Derived.Test.YtcgdmidjejmjhaaDoorMac4
import Derived.Test.YtcgdmidjejmjhaaDoorMac5
namespace Go.Proofs.YtcgdmidjejmjhaaDoor
open Go.RowKit
set_option linter.unusedVariables false
set_option linter.unusedSimpArgs false

set_option maxRecDepth 100000 in
theorem bcut_lh (a : Option Addr) (len cap : Nat) (k k' : IntKind) (l h : Int) (w : World) (h0 : 0 ≤ l) (h1 : l ≤ h) (h2 : h ≤ cap) :
    (Instr.slice 22 (.slice a len cap) (some (.int k l)) (some (.int k' h)) none).run Tryd.prog w = .ok (.slice (addS a cap l.toNat) (h.toNat - l.toNat) (cap - l.toNat)) w := by
  rw [run_slice_lh w 22 a len cap u_bytes k k' l h h0 h1 h2]
  have : (sizeOf (Tryd.prog.elem 22)).run Tryd.prog w = .ok 1 w := rfl
  rw [this]
  simp [Result.andThen, sliced, addS]
theorem mixAll_succ' : ∀ (n : Nat) (s : S8) (l : List Int), mixAll (n + 1) s l = mixF (mixAll n s l) ((l.drop (64 * n)).take 64)
  | 0, s, l => by simp [mixAll]
  | n + 1, s, l => by
    rw [mixAll, mixAll_succ' n, mixAll, List.drop_drop, show 64 + 64 * n = 64 * (n + 1) by omega]
theorem filledL_byte {l : List Int} (h : ∀ x ∈ l, 0 ≤ x ∧ x ≤ 255) : ∀ x ∈ filledL l, 0 ≤ x ∧ x ≤ 255 := by
  intro x hx
  simp only [filledL, List.mem_append, List.mem_singleton, List.mem_replicate, eightL, List.mem_cons, List.not_mem_nil, or_false] at hx
  rcases hx with ((hx | rfl) | ⟨_, rfl⟩) | hx
  · exact h x hx
  · omega
  · omega
  · rcases hx with rfl | rfl | rfl | rfl | rfl | rfl | rfl | rfl <;> omega
/-- Eight words in a block of one's own. -/
def Eb (w wr : World) (b : Nat) (s : S8) : Prop := Blk wr b 75 (wordsV s.l).toArray ∧ w.heap.size ≤ b
theorem fourL_len (l : List Int) : (l.flatMap fourL).length = 4 * l.length := by
  induction l with
  | nil => rfl
  | cons x l ih => rw [List.flatMap_cons, List.length_append, ih, List.length_cons, show (fourL x).length = 4 from rfl]; omega
theorem Bx.keptOwn {w wr w' : World} {v : Value} {L : List Int} {b : Nat} (h : Bx w wr v L) (hc : Chg wr w' (fun k => k = b)) (hb : w.heap.size ≤ b) (hn : ¬ blkOf v b) : Bx w w' v L :=
  ⟨h.1.kept hc (fun k hk e => hn (e ▸ hk)), h.2.1.trans hc (fun i hi e => by subst e; omega), h.2.2⟩
theorem uArr8 : Tryd.prog.underlying 75 = some (.array 8 72) := by kernel_rfl
theorem arr_index8 (w : World) (A : Array Value) (i : Nat) (x : Int) (hi : i < 8) (h : A[i]? = some (.int .u32 x)) :
    (Instr.index 75 (.agg A) (.int .i64 i)).run Tryd.prog w = .ok (.int .u32 x) w := by
  have hq : (Tryd.prog.info? 72).map (·.size) = some 1 := by kernel_rfl
  cases hi' : Tryd.prog.info? 72 with
  | none => simp [hi'] at hq
  | some d =>
    have hd : d.size = 1 := by simpa [hi'] using hq
    have h0 : (0 : Int) ≤ (i : Int) ∧ (i : Int) < 8 := by omega
    have hag : (isAgg 72).run Tryd.prog w = .ok false w := by
      unfold isAgg
      rw [Sem.run_bind, run_underlying uU32 w]
      rfl
    simp [Instr.index, asIntOf, Sem.run_bind, run_underlying uArr8, sizeOf, typeInfo, hi', hd, h0, part, hag, h]
    intro hx
    omega
set_option maxRecDepth 100000 in
set_option maxHeartbeats 2000000 in
theorem sum_any (w : World) (va : Value) (xs : List Int) (ht : Tab w) (ha : Rd w 1 va xs.length (bytesV xs)) (hn : NilOk va) (hb : ∀ x ∈ xs, 0 ≤ x ∧ x ≤ 255) (hl : xs.length ≤ 1000000) :
    Calls Tryd.prog 37 #[va] w fun e w' => ∃ v, e = .returned v ∧ Bx w w' v (sumL xs) := by
  have HA := Lib.hid ha
  have HN := Lib.hid hn
  have HT := Lib.hid ht
  have HBY := Lib.hid hb
  clear ha hn ht hb
  go_enter Tryd.func37, Tryd.ntmps37
  go_wp2_with fail
  go_at_call 41
  obtain ⟨W0, hW0⟩ : ∃ W, World.alloc w (.cells #[.int .u32 1779033703, .int .u32 3144134277, .int .u32 1013904242, .int .u32 2773480762, .int .u32 1359893119, .int .u32 2600822924, .int .u32 528734635, .int .u32 1541459225] 75) = W := ⟨_, rfl⟩
  have hc0 : Chg w W0 nob := by rw [← hW0]; exact (Chg.refl w nob).alloc _
  have hx0 : Blk W0 w.heap.size 75 #[.int .u32 1779033703, .int .u32 3144134277, .int .u32 1013904242, .int .u32 2773480762, .int .u32 1359893119, .int .u32 2600822924, .int .u32 528734635, .int .u32 1541459225] := by rw [← hW0]; exact Blk.new w _ _
  have hsz0 : W0.heap.size = w.heap.size + 1 := by rw [← hW0]; exact size_al _ _
  rw [hW0]
  clear hW0
  refine (filled_any W0 va xs (HA.out.kept hc0 (fun _ _ h => h)) HN.out hl).mono ?_
  rintro e w1 ⟨v1, rfl, hb1⟩
  have H0 := Lib.hid (hx0.kept hb1.2.1 id)
  have HB1 := Lib.hid (hb1.before hc0)
  have HF1 : Hid (∀ k, blkOf v1 k → w.heap.size + 1 ≤ k) := Lib.hid (fun k hk => by rw [← hsz0]; exact hb1.2.2 k hk)
  have HFB := Lib.hid (filledL_byte HBY.out)
  have hfl := filledL_len xs
  have hzl : zerosN xs.length < 64 := by unfold zerosN; omega
  clear hc0 hx0 hsz0 hb1
  obtain ⟨F, hF⟩ : ∃ F, filledL xs = F := ⟨_, rfl⟩
  have HS : Hid (sumL xs = (mixAll (F.length / 64) start8 F).l.flatMap fourL) := Lib.hid (by rw [← hF]; rfl)
  rw [hF] at HB1 HFB hfl
  clear hF
  obtain ⟨n, hn⟩ : ∃ n, F.length = n := ⟨_, rfl⟩
  obtain ⟨av, cv, rfl, hcv, hcv2, _⟩ := HB1.out.1.form
  rw [hn] at hfl HS hcv ⊢
  obtain ⟨hf1, hf2⟩ := hfl
  have hnb : n ≤ 1000100 := by omega
  obtain ⟨Kn, hKn⟩ : ∃ K, n / 64 = K := ⟨_, rfl⟩
  have hnK : n = 64 * Kn := by omega
  rw [hKn] at HS
  have HNK := Lib.hid hnK
  clear hf1 hf2 hKn hnK
  go_wp2_with fail
  go_loopw [5] (fun iv wr => ∃ k : Nat, ∃ a b c d e f g h : Int, k ≤ Kn ∧ iv = .int .i64 ((64 * k : Nat) : Int) ∧ Hid (mixAll k start8 F = ⟨a, b, c, d, e, f, g, h⟩) ∧ Hid (Blk wr w.heap.size 75 #[.int .u32 a, .int .u32 b, .int .u32 c, .int .u32 d, .int .u32 e, .int .u32 f, .int .u32 g, .int .u32 h]) ∧ Hid (Bx w wr (.slice av F.length cv) F)) (fun iv _ => n - (intOf iv).toNat)
  case atStart => exact ⟨0, _, _, _, _, _, _, _, _, by omega, rfl, Lib.hid rfl, H0, HB1⟩
  case round =>
    obtain ⟨k, a, b, c, d, e, f, g, h, hk, rfl, HM, HB0, HB⟩ := hrel
    clear H0 HB1
    by_cases hkl : k < Kn
    · obtain ⟨m, hm⟩ : ∃ m, 64 * k = m := ⟨_, rfl⟩
      have hsc := mixAll_succ' k start8 F
      rw [hm] at hsc ⊢
      rw [HM.out] at hsc
      have HSC := Lib.hid hsc
      have hmn : m + 64 ≤ n := by have hnK := HNK.out; omega
      have hwm : IntKind.i64.wrap ((m : Int) + 64) = (m : Int) + 64 := by simp only [IntKind.wrap, IntKind.bits, IntKind.signed]; simp; omega
      have hmi : (m : Int) < (n : Int) := by omega
      have hmj : (m : Int) ≤ 1000100 := by omega
      have hsl : ∀ w', (Instr.slice 22 (.slice av n cv) (some (.int .i64 (m : Int))) (some (.int .i64 ((m : Int) + 64))) none).run Tryd.prog w' = .ok (.slice (addS av cv m) 64 (cv - m)) w' := fun w' => by
        have h := bcut_lh av n cv .i64 .i64 (m : Int) ((m : Int) + 64) w' (by omega) (by omega) (by omega)
        rw [show ((m : Int) + 64).toNat = m + 64 by omega, show (m : Int).toNat = m by omega, show m + 64 - m = 64 by omega] at h
        exact h
      obtain ⟨l, hl2⟩ : ∃ l, (F.drop m).take 64 = l := ⟨_, rfl⟩
      have hll : l.length = 64 := by rw [← hl2]; simp; omega
      have HRL : Hid (Rd wr 1 (.slice (addS av cv m) 64 (cv - m)) l.length (bytesV l)) := Lib.hid (by
        have h := HB.out.1.rd.cut (l := m) (m := m + 64) (by omega) (by omega)
        rw [show m + 64 - m = 64 by omega] at h
        rw [hll, ← hl2]
        rw [show ((bytesV F).take (m + 64)).drop m = bytesV ((F.drop m).take 64) by simp [bytesV, List.drop_take]] at h
        exact h)
      have HLB : Hid (∀ x ∈ l, 0 ≤ x ∧ x ≤ 255) := Lib.hid (fun x hx => HFB.out x (by rw [← hl2] at hx; exact List.mem_of_mem_drop (List.mem_of_mem_take hx)))
      have HLL := Lib.hid hll
      rw [hl2] at HSC
      clear hsc hl2 hll
      obtain ⟨⟨a', b', c', d', e', f', g', h'⟩, hs'⟩ : ∃ s', mixF ⟨a, b, c, d, e, f, g, h⟩ l = s' := ⟨_, rfl⟩
      have HS' := Lib.hid hs'
      rw [hs'] at HSC
      clear hs'
      have hq := HB0.out
      have q0 := hq.cell 0
      have q1 := hq.cell 1
      have q2 := hq.cell 2
      have q3 := hq.cell 3
      have q4 := hq.cell 4
      have q5 := hq.cell 5
      have q6 := hq.cell 6
      have q7 := hq.cell 7
      simp only [List.getElem?_toArray, List.getElem?_cons_zero, List.getElem?_cons_succ] at q0 q1 q2 q3 q4 q5 q6 q7
      clear hq
      go_wp2_with fail
      refine wp_one [0] [6, 7] [] [0, 1, 2, 3, 4, 5, 6, 7] rfl (by kernel_rfl) (fun _ _ _ _ _ h => h) ?_; simp only [List.map_cons, List.map_nil, List.getElem?_toArray, List.getElem?_cons_zero, List.getElem?_cons_succ]
      (repeat (first | (apply can0; (· rfl); (· rfl); (· (intro w'; first | (go_simp; with_reducible rfl) | (go_simp; done))); simp only [Act.put, List.setIfInBounds_toArray, List.set_cons_zero, List.set_cons_succ]) | (apply can1; (· rfl); (· rfl); (· (first | (go_simp; with_reducible rfl) | (go_simp; done))); simp only [Act.put, List.setIfInBounds_toArray, List.set_cons_zero, List.set_cons_succ]) | (apply canN; (· rfl); (· rfl); simp only [Act.put, List.setIfInBounds_toArray, List.set_cons_zero, List.set_cons_succ]) | (apply canN1; (· rfl); (· rfl); simp only [Act.put, List.setIfInBounds_toArray, List.set_cons_zero, List.set_cons_succ]) | (apply can0; (· rfl); (· (go_simp; done)); (· (intro w'; first | (go_simp; with_reducible rfl) | (go_simp; done))); simp only [Act.put, List.setIfInBounds_toArray, List.set_cons_zero, List.set_cons_succ]) | (apply can1; (· rfl); (· (go_simp; done)); (· (first | (go_simp; with_reducible rfl) | (go_simp; done))); simp only [Act.put, List.setIfInBounds_toArray, List.set_cons_zero, List.set_cons_succ]) | (apply canN; (· rfl); (· (go_simp; done)); simp only [Act.put, List.setIfInBounds_toArray, List.set_cons_zero, List.set_cons_succ]) | (apply canN1; (· rfl); (· (go_simp; done)); simp only [Act.put, List.setIfInBounds_toArray, List.set_cons_zero, List.set_cons_succ])))
      refine canW rfl [] rfl (fun K hK => ?_)
      go_simp
      go_at_call 42
      refine (mixed_any _ ⟨a, b, c, d, e, f, g, h⟩ _ l (HT.out.kept HB.out.2.1.drew id) (HRL.out.kept (Chg.refl wr nob).drew (fun _ _ => id)) HLB.out HLL.out).mono ?_
      rw [HS'.out]
      rintro e2 w2 ⟨rfl, hc2⟩
      have hb2 := HB0.out.drew.kept hc2 id
      have HB2 := Lib.hid hb2
      have HBX : Hid (Bx w w2 (.slice av F.length cv) F) := Lib.hid ⟨(Bx.drew HB.out).1.kept hc2 (fun _ _ => id), (Bx.drew HB.out).2.1.trans hc2 (fun _ _ x => x), HB.out.2.2⟩
      clear q0 q1 q2 q3 q4 q5 q6 q7 hc2 hb2
      (refine hK _ _ (fun u hu => by cases hu) ?_; clear hK K; try simp only [Act.put, List.setIfInBounds_toArray, List.set_cons_zero, List.set_cons_succ])
      have f0 := HB2.out.free 0
      have f1 := HB2.out.free 1
      have f2 := HB2.out.free 2
      have f3 := HB2.out.free 3
      have f4 := HB2.out.free 4
      have f5 := HB2.out.free 5
      have f6 := HB2.out.free 6
      have f7 := HB2.out.free 7
      have hq := HB2.out
      have q0 := hq.cell 0
      have q1 := hq.cell 1
      have q2 := hq.cell 2
      have q3 := hq.cell 3
      have q4 := hq.cell 4
      have q5 := hq.cell 5
      have q6 := hq.cell 6
      have q7 := hq.cell 7
      simp only [List.getElem?_toArray, List.getElem?_cons_zero, List.getElem?_cons_succ] at q0 q1 q2 q3 q4 q5 q6 q7
      clear hq
      simp only [S8.val]
      (repeat (first | (apply can0; (· rfl); (· rfl); (· (intro w'; first | (go_simp; with_reducible rfl) | (go_simp; done))); simp only [Act.put, List.setIfInBounds_toArray, List.set_cons_zero, List.set_cons_succ]) | (apply can1; (· rfl); (· rfl); (· (first | (go_simp; with_reducible rfl) | (go_simp; done))); simp only [Act.put, List.setIfInBounds_toArray, List.set_cons_zero, List.set_cons_succ]) | (apply canN; (· rfl); (· rfl); simp only [Act.put, List.setIfInBounds_toArray, List.set_cons_zero, List.set_cons_succ]) | (apply canN1; (· rfl); (· rfl); simp only [Act.put, List.setIfInBounds_toArray, List.set_cons_zero, List.set_cons_succ]) | (apply can0; (· rfl); (· (go_simp; done)); (· (intro w'; first | (go_simp; with_reducible rfl) | (go_simp; done))); simp only [Act.put, List.setIfInBounds_toArray, List.set_cons_zero, List.set_cons_succ]) | (apply can1; (· rfl); (· (go_simp; done)); (· (first | (go_simp; with_reducible rfl) | (go_simp; done))); simp only [Act.put, List.setIfInBounds_toArray, List.set_cons_zero, List.set_cons_succ]) | (apply canN; (· rfl); (· (go_simp; done)); simp only [Act.put, List.setIfInBounds_toArray, List.set_cons_zero, List.set_cons_succ]) | (apply canN1; (· rfl); (· (go_simp; done)); simp only [Act.put, List.setIfInBounds_toArray, List.set_cons_zero, List.set_cons_succ])))
      refine canW rfl [] rfl (fun K hK => ?_)
      go_simp
      (refine hK _ _ (fun u hu => by cases hu) ?_; clear hK K; try simp only [Act.put, List.setIfInBounds_toArray, List.set_cons_zero, List.set_cons_succ])
      refine canE ?_
      go_wp2_with fail
      go_roundw
      case rel =>
        refine ⟨k + 1, a', b', c', d', e', f', g', h', by omega, by rw [show ((64 * (k + 1) : Nat) : Int) = (m : Int) + 64 by omega], Lib.hid HSC.out,
          Lib.hid (HB2.out.laid [.int .u32 a', .int .u32 b', .int .u32 c', .int .u32 d', .int .u32 e', .int .u32 f', .int .u32 g', .int .u32 h'] rfl),
          Lib.hid (HBX.out.keptOwn (b := w.heap.size) (Chg.cells w2 w.heap.size [.int .u32 a', .int .u32 b', .int .u32 c', .int .u32 d', .int .u32 e', .int .u32 f', .int .u32 g', .int .u32 h'] 0) (Nat.le_refl _) (HBX.out.1.ne HB2.out (by decide)))⟩
      case measure => simp [intOf]; omega
    · obtain rfl : k = Kn := by omega
      rw [← HNK.out]
      have hq := HB0.out
      have q0 := hq.cell 0
      have q1 := hq.cell 1
      have q2 := hq.cell 2
      have q3 := hq.cell 3
      have q4 := hq.cell 4
      have q5 := hq.cell 5
      have q6 := hq.cell 6
      have q7 := hq.cell 7
      simp only [List.getElem?_toArray, List.getElem?_cons_zero, List.getElem?_cons_succ] at q0 q1 q2 q3 q4 q5 q6 q7
      clear hq
      go_wp2_with fail
      obtain ⟨P, hP⟩ : ∃ P, P = S8.l ⟨a, b, c, d, e, f, g, h⟩ := ⟨_, rfl⟩
      have hPl : P.length = 8 := by rw [hP]; rfl
      obtain ⟨A, hA⟩ : ∃ A, (#[.int .u32 a, .int .u32 b, .int .u32 c, .int .u32 d, .int .u32 e, .int .u32 f, .int .u32 g, .int .u32 h] : Array Value) = A := ⟨_, rfl⟩
      have hAP : A = (wordsV P).toArray := by rw [hP, ← hA]; rfl
      have HS2 : Hid (sumL xs = P.flatMap fourL) := Lib.hid (by rw [HS.out, HM.out, hP])
      have HIX : Hid (∀ (i : Nat), i < 8 → A[i]? = some (.int .u32 (P.getD i 0))) := Lib.hid (fun i hi => by rw [hAP]; simp [wordsV, List.getD, show i < P.length by omega])
      have HPL := Lib.hid hPl
      rw [hA]
      clear hP hA hAP q0 q1 q2 q3 q4 q5 q6 q7 HS HM hPl
      have HW2 : Hid (Chg w wr nob) := Lib.hid HB.out.2.1
      clear HB HB0 HF1
      go_loopw [6, 8, 26] (fun bv _ iv wr => ∃ i : Nat, i ≤ 8 ∧ iv = .int .i64 i ∧ Hid (Bx w wr bv ((P.take i).flatMap fourL))) (fun _ _ iv _ => 8 - (intOf iv).toNat)
      case atStart => exact ⟨0, by omega, rfl, Lib.hid ⟨World.ownsRow_nil _ _ _ _, HW2.out, fun k hk => by cases hk⟩⟩
      case round =>
        obtain ⟨i, hi, rfl, HO⟩ := hrel
        obtain ⟨ao, co, rfl, _⟩ := HO.out.1.form
        obtain ⟨L, hL⟩ : ∃ L, (P.take i).flatMap fourL = L := ⟨_, rfl⟩
        have hLl : L.length = 4 * i := by rw [← hL, fourL_len, List.length_take, HPL.out]; omega
        by_cases hil : i < 8
        · have hii : (i : Int) < 8 := by omega
          have hi0 : (0 : Int) ≤ (i : Int) := by omega
          have hsn := take_snoc (l := P) (k := i) (by rw [HPL.out]; exact hil) 0
          have hix := arr_index8 wr A i _ hil (HIX.out i hil)
          have HSN : Hid ((P.take (i + 1)).flatMap fourL = L ++ fourL (P.getD i 0)) := Lib.hid (by rw [hsn, List.flatMap_append, hL]; simp)
          obtain ⟨x, hx⟩ : ∃ x, P.getD i 0 = x := ⟨_, rfl⟩
          rw [hx] at hix HSN
          rw [hL] at HO ⊢
          obtain ⟨nl, hnl⟩ : ∃ nl, L.length = nl := ⟨_, rfl⟩
          have HNL := Lib.hid hnl
          have HB : Hid (Bx w wr (.slice ao nl co) L) := Lib.hid (by rw [← hnl]; exact HO.out)
          rw [hnl]
          have hnb : nl ≤ 32 := by omega
          clear hsn hx hL hLl HO hnl
          go_wp2_with (at_builtin; refine wpList_push rfl (.tmp 29) (.tmp 41) 22 rfl 5 (.int .u8 0) 1 1 i_byte u_bytes rfl (by decide) (.slice ao nl co) _ _ rfl HB.out.1 4 4 rfl rfl rfl (by unfold maxLen; rw [HNL.out]; omega) (by rw [HNL.out]; omega) ?_)
          intro v3 w3 ho hch hfo
          have hb := HB.out.pushs (ys := fourL x) ho hch hfo (by simp [bytesV, fourL, IntKind.wrap, IntKind.bits, IntKind.signed]) (by rw [List.length_append]; rfl)
          rw [← HSN.out] at hb
          have HB3 := Lib.hid hb
          obtain ⟨av3, cv3, rfl, _⟩ := ho.form
          clear hb ho hch hfo
          go_wp2_with fail
          go_roundw
          case rel => exact ⟨i + 1, by omega, by go_num, HB3⟩
          case measure => simp [intOf]; omega
        · obtain rfl : i = 8 := by omega
          have HO2 : Hid (Bx w wr (.slice ao L.length co) (sumL xs)) := Lib.hid (by rw [← hL]; rw [List.take_of_length_le (by rw [HPL.out]; exact Nat.le_refl _), ← HS2.out] at HO ⊢; exact HO.out)
          rw [hL]
          clear HO
          go_wp2
          go_ret
          exact ⟨_, rfl, HO2.out⟩
end Go.Proofs.YtcgdmidjejmjhaaDoor
