/-
  Cells run by run: the document's Cells.
  Bits of signs: masks and joins as sums.
-/
import Derived.Test.YtmbdpcamhkdkmaaGreatDoorRunsM
import Derived.Test.YtmbdpcamhkdkmaaGreatDoorK
import Derived.Lib.EndianBits
namespace Go.Proofs.YtmbdpcamhkdkmaaGreatDoor
open Go.RowKit
set_option linter.unusedVariables false
set_option linter.unusedSimpArgs false

theorem Rd.made2 (w : World) (o : Obj) (t : TypeId) (cs : Array Value) {size n c : Nat} (hs : cs.size = n * size) (hc : n ≤ c) : Rd ((w.alloc o).alloc (.cells cs t)) size (.slice (some ⟨w.heap.size + 1, 0, none⟩) n c) n cs.toList := by
  have h := Rd.made (w.alloc o) t cs hs hc
  have e : (w.alloc o).heap.size = w.heap.size + 1 := Array.size_push _
  rwa [e] at h
attribute [local go_sem ↓] ce_guard run_eql_ce run_neq_ce
set_option maxRecDepth 100000 in
set_option maxHeartbeats 8000000 in
theorem rcells_any (w : World) (va : Value) (l : List Ce) (ha : Rd w 5 va l.length (cellsV l)) (hl : l.length ≤ 100000) :
    Calls Tryz.prog 22 #[va] w fun e w' => ∃ v, e = .returned v ∧ Bx w w' v (runsL l) := by
  obtain ⟨a1, c1, rfl, hn1, _⟩ := ha.form
  have HC := Lib.hid ha
  clear ha
  go_enter Tryz.func22, Tryz.ntmps22
  go_wp2
  go_loopw [3, 4, 5, 6] (fun bv iv _ _ wr => ∃ (k : Nat) (B : List Int), k ≤ l.length ∧ iv = .int .i64 k ∧ Hid (B ++ runsL (l.drop k) = runsL l) ∧ Hid (Bx w wr bv B)) (fun _ iv _ _ _ => l.length - (intOf iv).toNat)
  case atStart => exact ⟨0, [], Nat.zero_le _, rfl, Lib.hid rfl, Lib.hid ⟨World.ownsRow_nil _ _ _ _, Chg.refl _ _, fun k hk => by cases hk⟩⟩
  case round =>
    obtain ⟨k, B, hk, rfl, HE, HB⟩ := hrel
    have hll : B.length ≤ 6000000 := by
      have h1 := congrArg List.length HE.out
      rw [List.length_append] at h1
      have h2 := runsL_len _ l (Nat.le_refl _)
      omega
    by_cases hkl : k < l.length
    · have hkn : (k : Int) < (l.length : Int) := by omega
      have hk0 : (0 : Int) ≤ (k : Int) := by omega
      obtain ⟨c, hcc⟩ : ∃ c, l[k]? = some c := ⟨l[k], List.getElem?_eq_getElem hkl⟩
      have HCC := Lib.hid hcc
      obtain ⟨t, ht⟩ : ∃ t, l.drop (k + 1) = t := ⟨_, rfl⟩
      have hct : l.drop k = c :: t := by rw [List.drop_eq_getElem_cons hkl, ht, show l[k] = c from Option.some.inj ((List.getElem?_eq_getElem hkl).symm.trans hcc)]
      have htl : t.length + 1 + k = l.length := by rw [← ht, List.length_drop]; omega
      have hat : ∀ n, (c :: t)[n]? = l[k + n]? := fun n => by rw [← hct, List.getElem?_drop]
      have hdr : ∀ n, 1 ≤ n → l.drop (k + n) = t.drop (n - 1) := fun n hn => by rw [← List.drop_drop, hct]; obtain ⟨i, rfl⟩ : ∃ i, n = i + 1 := ⟨n - 1, by omega⟩; rfl
      rw [hct] at HE
      have HAT := Lib.hid hat
      have HDR := Lib.hid hdr
      clear hcc ht hct hat hdr
      obtain ⟨r0, f0, g0, b0, w0, HEQ⟩ : ∃ r0 f0 g0 b0 w0, Hid (c = ⟨r0, f0, g0, b0, w0⟩) := ⟨c.r, c.f, c.g, c.b, c.w, rfl⟩
      have hrl := runLen_le c t
      obtain ⟨g, o, rfl, _⟩ := HC.out.cell5 HCC.out
      go_wp2_with fail
      go_loopw [5] (fun nv wi => ∃ n : Nat, 1 ≤ n ∧ n ≤ runLen c t + 1 ∧ nv = .int .i64 n ∧ Hid (Chg wr wi nob)) (fun nv _ => t.length + 2 - (intOf nv).toNat)
      case atStart => exact ⟨1, Nat.le_refl _, by omega, rfl, Lib.hid (Chg.refl _ _)⟩
      case round =>
        obtain ⟨n, hn, hnr, rfl, HI⟩ := hrel
        have hnx := Lib.hid (runLen_next1 c t n hn hnr)
        obtain ⟨p, hp⟩ : ∃ p, k + n = p := ⟨_, rfl⟩
        have hw : IntKind.i64.wrap ((k : Int) + (n : Int)) = (p : Int) := by rw [wraps_i64' _ (by omega) (by omega)]; omega
        have hatp : l[p]? = (c :: t)[n]? := by rw [← hp]; exact (HAT.out n).symm
        have HP := Lib.hid hp
        by_cases hin : n < t.length + 1
        · have hlt : (p : Int) < (l.length : Int) := by omega
          have hltn : p < l.length := by omega
          have hlt0 : (0 : Int) ≤ (p : Int) := by omega
          obtain ⟨x, hx⟩ : ∃ x, (c :: t)[n]? = some x := ⟨(c :: t)[n], List.getElem?_eq_getElem (by simpa using hin)⟩
          have hrd := (HC.out.kept (HB.out.2.1.trans HI.out (fun _ _ h => h)) (fun _ _ => id))
          obtain ⟨g', o', heq, t0, t1, t2, t3, t4⟩ := hrd.cell5 (hatp.trans hx)
          cases heq
          obtain ⟨g', o', heq, s0, s1, s2, s3, s4⟩ := hrd.cell5 HCC.out
          cases heq
          rw [HEQ.out] at s0 s1 s2 s3 s4
          simp only at s0 s1 s2 s3 s4
          have HX := Lib.hid hx
          clear hx hp hatp
          obtain ⟨q, hq⟩ : ∃ q, eqC x c = q := ⟨_, rfl⟩
          have HQ := Lib.hid hq
          rw [HEQ.out] at hq
          obtain ⟨r1, f1, g1, b1, w1⟩ := x
          simp only at t0 t1 t2 t3 t4
          clear hrd
          go_wp2_with fail
          refine wp_one [12, 16] [] [] [0, 1, 2, 3, 4, 5, 6, 7, 8, 9, 10, 11, 12, 13, 14, 15, 16, 17, 18] rfl (by kernel_rfl) (fun _ _ _ _ _ h => h) ?_; simp only [List.map_cons, List.map_nil, List.getElem?_toArray, List.getElem?_cons_zero, List.getElem?_cons_succ]
          (repeat (first | (apply can0; (· rfl); (· rfl); (· (intro w'; first | (go_simp; with_reducible rfl) | (go_simp; done))); simp only [Act.put, List.setIfInBounds_toArray, List.set_cons_zero, List.set_cons_succ]) | (apply can1; (· rfl); (· rfl); (· (first | (go_simp; with_reducible rfl) | (go_simp; done))); simp only [Act.put, List.setIfInBounds_toArray, List.set_cons_zero, List.set_cons_succ]) | (apply canN; (· rfl); (· rfl); simp only [Act.put, List.setIfInBounds_toArray, List.set_cons_zero, List.set_cons_succ]) | (apply canN1; (· rfl); (· rfl); simp only [Act.put, List.setIfInBounds_toArray, List.set_cons_zero, List.set_cons_succ]) | (apply can0; (· rfl); (· (go_simp; done)); (· (intro w'; first | (go_simp; with_reducible rfl) | (go_simp; done))); simp only [Act.put, List.setIfInBounds_toArray, List.set_cons_zero, List.set_cons_succ]) | (apply can1; (· rfl); (· (go_simp; done)); (· (first | (go_simp; with_reducible rfl) | (go_simp; done))); simp only [Act.put, List.setIfInBounds_toArray, List.set_cons_zero, List.set_cons_succ]) | (apply canN; (· rfl); (· (go_simp; done)); simp only [Act.put, List.setIfInBounds_toArray, List.set_cons_zero, List.set_cons_succ]) | (apply canN1; (· rfl); (· (go_simp; done)); simp only [Act.put, List.setIfInBounds_toArray, List.set_cons_zero, List.set_cons_succ])))
          refine canE ?_
          clear hq s0 s1 s2 s3 s4 t0 t1 t2 t3 t4
          cases q
          · have HNE := Lib.hid (hnx.out.2 (by rw [HX.out]; intro h; exact eqC_f HQ.out (Option.some.inj h)))
            have HIe := Lib.hid (HI.out.drew)
            have hrun : Hid (runsL (c :: t) = varsL (ceN n c) ++ runsL (t.drop (n - 1))) := Lib.hid (by rw [runsL, HNE.out]; rfl)
            clear hnx
            have hrd := HC.out.kept (HB.out.2.1.trans HIe.out (fun _ _ h => h)) (fun _ _ => id)
            obtain ⟨g', o', heq, s0, s1, s2, s3, s4⟩ := hrd.cell5 HCC.out
            cases heq
            rw [HEQ.out] at s0 s1 s2 s3 s4
            simp only at s0 s1 s2 s3 s4
            clear hrd
            have hnv : Hid (numsV (ceN n c) = [.int .u64 n, .int .u64 (IntKind.u64.wrap r0), .int .u64 (IntKind.u64.wrap f0), .int .u64 (IntKind.u64.wrap g0), .int .u64 (IntKind.u64.wrap b0), .int .u64 (IntKind.u64.wrap w0)]) := Lib.hid (by rw [ceN_V n (by omega), HEQ.out])
            have hvl : Hid ((varsL (ceN n c)).length ≤ 60) := Lib.hid (varsL_len _ (ceN_lt n c))
            go_wp2_with fail
            go_at_call 20
            refine (nums_any _ _ (ceN n c) (by
              rw [hnv.out]
              exact (Rd.made2 wr _ 41 #[.int .u64 n, .int .u64 (IntKind.u64.wrap r0), .int .u64 (IntKind.u64.wrap f0), .int .u64 (IntKind.u64.wrap g0), .int .u64 (IntKind.u64.wrap b0), .int .u64 (IntKind.u64.wrap w0)] (size := 1) (n := 6) (c := 6) rfl (Nat.le_refl _)).kept ((Chg.refl _ nob).drew) (fun _ _ => id)) (ceN_lt _ _) (by (show 6 ≤ 1000); decide)).mono ?_
            rintro e w2 ⟨v, rfl, hv⟩
            have hvc := hv.2.1
            have hcw : Chg w w2 nob := HB.out.2.1.trans (HI.out.trans (((Chg.refl wr nob).alloc (.cells #[.int .i32 r0, .int .i64 f0, .int .i64 g0, .int .i64 b0, .int .i64 w0] 47)).alloc _ |>.drew |>.trans hvc (fun _ _ h => h)) (fun _ _ h => h)) (fun _ _ h => h)
            have hv' : Bx w w2 v (varsL (ceN n c)) := ⟨hv.1, hcw, fun k hk => by
              have h1 := hv.2.2 k hk
              have h2 := (HB.out.2.1.trans HI.out (fun _ _ h => h)).size
              simp at h1
              omega⟩
            have HV := Lib.hid hv'
            have HB2 := Lib.hid (show Bx w w2 _ B from ⟨HB.out.1.kept (HI.out.trans (((Chg.refl wr nob).alloc (.cells #[.int .i32 r0, .int .i64 f0, .int .i64 g0, .int .i64 b0, .int .i64 w0] 47)).alloc _ |>.drew |>.trans hvc (fun _ _ h => h)) (fun _ _ h => h)) (fun _ _ => id), hcw, HB.out.2.2⟩)
            clear hv hv' hvc hcw s0 s1 s2 s3 s4
            have hvl2 := hvl.out
            obtain ⟨av, cv, rfl, _⟩ := HV.out.1.form
            obtain ⟨ab, cb, rfl, _⟩ := HB.out.1.form
            go_wp2_with (at_builtin; refine wpList_bx rfl (.tmp 36) (.tmp 58) rfl _ B rfl HB2.out _ (varsL (ceN n c)) rfl HV.out.1 (by omega) ?_)
            intro v3 w3 hb3 hc3
            have HB3 := Lib.hid hb3
            clear hb3 hc3
            obtain ⟨a3, c3, rfl, _⟩ := HB3.out.1.form
            go_wp2
            go_roundw
            case rel => exact ⟨p, B ++ varsL (ceN n c), by have := HP.out; omega, rfl, Lib.hid (by rw [← HP.out, HDR.out n hn, List.append_assoc, ← hrun.out]; exact HE.out), HB3⟩
            case measure => simp [intOf]; have := HP.out; omega
          · have hne : n < runLen c t + 1 := hnx.out.1 (by rw [HX.out, eqC_t HQ.out])
            go_wp2
            go_roundw
            case rel => exact ⟨n + 1, by omega, by omega, by go_num, Lib.hid HI.out.drew⟩
            case measure => simp [intOf]; omega
        · have HNE := Lib.hid (hnx.out.2 (by rw [List.getElem?_eq_none (by simpa using hin)]; simp))
          have HIe := Lib.hid (HI.out.drew)
          have hlt : ¬ (p : Int) < (l.length : Int) := by omega
          have hltn : ¬ p < l.length := by omega
          clear hp hatp
          go_wp2_with fail
          refine wp_one [12, 16] [] [] [0, 1, 2, 3, 4, 5, 6, 7, 8, 9, 10, 11, 12, 13, 14, 15, 16, 17, 18] rfl (by kernel_rfl) (fun _ _ _ _ _ h => h) ?_; simp only [List.map_cons, List.map_nil, List.getElem?_toArray, List.getElem?_cons_zero, List.getElem?_cons_succ]
          (repeat (first | (apply can0; (· rfl); (· rfl); (· (intro w'; first | (go_simp; with_reducible rfl) | (go_simp; done))); simp only [Act.put, List.setIfInBounds_toArray, List.set_cons_zero, List.set_cons_succ]) | (apply can1; (· rfl); (· rfl); (· (first | (go_simp; with_reducible rfl) | (go_simp; done))); simp only [Act.put, List.setIfInBounds_toArray, List.set_cons_zero, List.set_cons_succ]) | (apply canN; (· rfl); (· rfl); simp only [Act.put, List.setIfInBounds_toArray, List.set_cons_zero, List.set_cons_succ]) | (apply canN1; (· rfl); (· rfl); simp only [Act.put, List.setIfInBounds_toArray, List.set_cons_zero, List.set_cons_succ]) | (apply can0; (· rfl); (· (go_simp; done)); (· (intro w'; first | (go_simp; with_reducible rfl) | (go_simp; done))); simp only [Act.put, List.setIfInBounds_toArray, List.set_cons_zero, List.set_cons_succ]) | (apply can1; (· rfl); (· (go_simp; done)); (· (first | (go_simp; with_reducible rfl) | (go_simp; done))); simp only [Act.put, List.setIfInBounds_toArray, List.set_cons_zero, List.set_cons_succ]) | (apply canN; (· rfl); (· (go_simp; done)); simp only [Act.put, List.setIfInBounds_toArray, List.set_cons_zero, List.set_cons_succ]) | (apply canN1; (· rfl); (· (go_simp; done)); simp only [Act.put, List.setIfInBounds_toArray, List.set_cons_zero, List.set_cons_succ])))
          refine canE ?_
          have hrun : Hid (runsL (c :: t) = varsL (ceN n c) ++ runsL (t.drop (n - 1))) := Lib.hid (by rw [runsL, HNE.out]; rfl)
          clear hnx
          have hrd := HC.out.kept (HB.out.2.1.trans HIe.out (fun _ _ h => h)) (fun _ _ => id)
          obtain ⟨g', o', heq, s0, s1, s2, s3, s4⟩ := hrd.cell5 HCC.out
          cases heq
          rw [HEQ.out] at s0 s1 s2 s3 s4
          simp only at s0 s1 s2 s3 s4
          clear hrd
          have hnv : Hid (numsV (ceN n c) = [.int .u64 n, .int .u64 (IntKind.u64.wrap r0), .int .u64 (IntKind.u64.wrap f0), .int .u64 (IntKind.u64.wrap g0), .int .u64 (IntKind.u64.wrap b0), .int .u64 (IntKind.u64.wrap w0)]) := Lib.hid (by rw [ceN_V n (by omega), HEQ.out])
          have hvl : Hid ((varsL (ceN n c)).length ≤ 60) := Lib.hid (varsL_len _ (ceN_lt n c))
          go_wp2_with fail
          go_at_call 20
          refine (nums_any _ _ (ceN n c) (by
            rw [hnv.out]
            exact (Rd.made2 wr _ 41 #[.int .u64 n, .int .u64 (IntKind.u64.wrap r0), .int .u64 (IntKind.u64.wrap f0), .int .u64 (IntKind.u64.wrap g0), .int .u64 (IntKind.u64.wrap b0), .int .u64 (IntKind.u64.wrap w0)] (size := 1) (n := 6) (c := 6) rfl (Nat.le_refl _)).kept ((Chg.refl _ nob).drew) (fun _ _ => id)) (ceN_lt _ _) (by (show 6 ≤ 1000); decide)).mono ?_
          rintro e w2 ⟨v, rfl, hv⟩
          have hvc := hv.2.1
          have hcw : Chg w w2 nob := HB.out.2.1.trans (HI.out.trans (((Chg.refl wr nob).alloc (.cells #[.int .i32 r0, .int .i64 f0, .int .i64 g0, .int .i64 b0, .int .i64 w0] 47)).alloc _ |>.drew |>.trans hvc (fun _ _ h => h)) (fun _ _ h => h)) (fun _ _ h => h)
          have hv' : Bx w w2 v (varsL (ceN n c)) := ⟨hv.1, hcw, fun k hk => by
            have h1 := hv.2.2 k hk
            have h2 := (HB.out.2.1.trans HI.out (fun _ _ h => h)).size
            simp at h1
            omega⟩
          have HV := Lib.hid hv'
          have HB2 := Lib.hid (show Bx w w2 _ B from ⟨HB.out.1.kept (HI.out.trans (((Chg.refl wr nob).alloc (.cells #[.int .i32 r0, .int .i64 f0, .int .i64 g0, .int .i64 b0, .int .i64 w0] 47)).alloc _ |>.drew |>.trans hvc (fun _ _ h => h)) (fun _ _ h => h)) (fun _ _ => id), hcw, HB.out.2.2⟩)
          clear hv hv' hvc hcw s0 s1 s2 s3 s4
          have hvl2 := hvl.out
          obtain ⟨av, cv, rfl, _⟩ := HV.out.1.form
          obtain ⟨ab, cb, rfl, _⟩ := HB.out.1.form
          go_wp2_with (at_builtin; refine wpList_bx rfl (.tmp 36) (.tmp 58) rfl _ B rfl HB2.out _ (varsL (ceN n c)) rfl HV.out.1 (by omega) ?_)
          intro v3 w3 hb3 hc3
          have HB3 := Lib.hid hb3
          clear hb3 hc3
          obtain ⟨a3, c3, rfl, _⟩ := HB3.out.1.form
          go_wp2
          go_roundw
          case rel => exact ⟨p, B ++ varsL (ceN n c), by have := HP.out; omega, rfl, Lib.hid (by rw [← HP.out, HDR.out n hn, List.append_assoc, ← hrun.out]; exact HE.out), HB3⟩
          case measure => simp [intOf]; have := HP.out; omega
    · obtain rfl : k = l.length := by omega
      have he : Hid (B = runsL l) := Lib.hid (by rw [← HE.out, List.drop_length]; simp [runsL])
      go_wp2
      go_ret
      exact ⟨_, rfl, by rw [← he.out]; exact HB.out⟩
end Go.Proofs.YtmbdpcamhkdkmaaGreatDoor

namespace Go.Proofs.YtmbdpcamhkdkmaaGreatDoor
set_option linter.unusedVariables false

theorem wraps_i32 (n : Int) (h₀ : 0 ≤ n) (h₁ : n < 2 ^ 31) : IntKind.i32.wrap n = n := by
  simp only [IntKind.wrap, IntKind.bits, IntKind.signed]; simp; omega
theorem wraps_u8 (n : Int) (h₀ : 0 ≤ n) (h₁ : n < 2 ^ 8) : IntKind.u8.wrap n = n := by
  simp only [IntKind.wrap, IntKind.bits, IntKind.signed]; simp; omega
section
variable (x y : Int)
theorem i32_and31 (h₀ : 0 ≤ x) (h₁ : x < 2147483648) : bits .and .i32 x (31) = x % 32 := bits_mask .i32 31 (by decide) wraps_i32 5 (by decide) x h₀ (by omega)
theorem i32_and15 (h₀ : 0 ≤ x) (h₁ : x < 2147483648) : bits .and .i32 x (15) = x % 16 := bits_mask .i32 31 (by decide) wraps_i32 4 (by decide) x h₀ (by omega)
theorem i32_and7 (h₀ : 0 ≤ x) (h₁ : x < 2147483648) : bits .and .i32 x (7) = x % 8 := bits_mask .i32 31 (by decide) wraps_i32 3 (by decide) x h₀ (by omega)
theorem i32_and63 (h₀ : 0 ≤ x) (h₁ : x < 2147483648) : bits .and .i32 x (63) = x % 64 := bits_mask .i32 31 (by decide) wraps_i32 6 (by decide) x h₀ (by omega)
theorem u8_and31 (h₀ : 0 ≤ x) (h₁ : x < 256) : bits .and .u8 x (31) = x % 32 := bits_mask .u8 8 (by decide) wraps_u8 5 (by decide) x h₀ (by omega)
theorem u8_and15 (h₀ : 0 ≤ x) (h₁ : x < 256) : bits .and .u8 x (15) = x % 16 := bits_mask .u8 8 (by decide) wraps_u8 4 (by decide) x h₀ (by omega)
theorem u8_and7 (h₀ : 0 ≤ x) (h₁ : x < 256) : bits .and .u8 x (7) = x % 8 := bits_mask .u8 8 (by decide) wraps_u8 3 (by decide) x h₀ (by omega)
theorem u8_and63 (h₀ : 0 ≤ x) (h₁ : x < 256) : bits .and .u8 x (63) = x % 64 := bits_mask .u8 8 (by decide) wraps_u8 6 (by decide) x h₀ (by omega)
theorem i32_or6 (hx₀ : 0 ≤ x) (hx₁ : x * 64 < 2147483648) (hy₀ : 0 ≤ y) (hy : y < 64) : bits .or .i32 (x * 64) y = x * 64 + y :=
  bits_join .i32 31 (by decide) wraps_i32 6 (x * 64) y (by omega) (by omega) (by omega) hy₀ hy (by omega)
theorem i32_or12 (hx₀ : 0 ≤ x) (hx₁ : x * 4096 < 2147483648) (hy₀ : 0 ≤ y) (hy : y < 4096) : bits .or .i32 (x * 4096) y = x * 4096 + y :=
  bits_join .i32 31 (by decide) wraps_i32 12 (x * 4096) y (by omega) (by omega) (by omega) hy₀ hy (by omega)
theorem i32_or18 (hx₀ : 0 ≤ x) (hx₁ : x * 262144 < 2147483648) (hy₀ : 0 ≤ y) (hy : y < 262144) : bits .or .i32 (x * 262144) y = x * 262144 + y :=
  bits_join .i32 31 (by decide) wraps_i32 18 (x * 262144) y (by omega) (by omega) (by omega) hy₀ hy (by omega)
theorem u8_or6 (hx₀ : 0 ≤ x) (hx₁ : x * 64 < 256) (hy₀ : 0 ≤ y) (hy : y < 64) : bits .or .u8 (x * 64) y = x * 64 + y :=
  bits_join .u8 8 (by decide) wraps_u8 6 (x * 64) y (by omega) (by omega) (by omega) hy₀ hy (by omega)
end
end Go.Proofs.YtmbdpcamhkdkmaaGreatDoor
