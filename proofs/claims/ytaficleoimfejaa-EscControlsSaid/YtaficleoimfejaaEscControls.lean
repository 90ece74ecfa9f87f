/-
  Chapter 8: the walk of EscControls.
-/
import Derived.Test.YtaficleoimfejaaEscControls0
namespace Go.Proofs.Ytaficleoimfejaa
open Go.RowKit
set_option linter.unusedVariables false
set_option linter.unusedSimpArgs false
attribute [local go_sem ↓] run_min_two run_max_two

def byteAt (xs : List Int) (j : Nat) : Int := (((xs.getD j 0).toNat % 256 : Nat) : Int)
theorem run_idx (xs : List Int) (k : IntKind) (j : Nat) (w : World) (hj : (j : Int) < (xs.length : Int)) : (Instr.index 9 (.string (strOfNums xs)) (.int k (j : Int))).run Try.prog w = .ok (.int .u8 (byteAt xs j)) w := by
  have hj' : j < xs.length := by omega
  rw [run_index_string w 9 (strOfNums xs) k (j : Int) u_string, dif_pos ⟨by omega, by rw [strOfNums_size]; exact hj⟩]
  congr 2
  unfold byteAt
  simp [strOfNums, ByteArray.getElem_eq_getElem_data, List.getD, hj']
attribute [local go_sem ↓] run_idx
/-- A row of the law's own. -/
def Nx (w wr : World) (e : TypeId) (v : Value) (xs : List Value) : Prop := Own wr e 1 v xs.length xs ∧ Chg w wr nob ∧ ∀ k, blkOf v k → w.heap.size ≤ k
theorem Nx.app {w wr w1 : World} {e : TypeId} {v v1 : Value} {xs us : List Value} {n : Nat} (h : Nx w wr e v xs) (ho : Own w1 e 1 v1 n (xs ++ us)) (hc : Chg wr w1 (blkOf v)) (hf : ∀ k, blkOf v1 k → blkOf v k ∨ wr.heap.size ≤ k) (hn : n = (xs ++ us).length) : Nx w w1 e v1 (xs ++ us) := by
  subst hn
  refine ⟨ho, h.2.1.trans hc (fun i hi hb => by have := h.2.2 i hb; omega), fun k hk => ?_⟩
  rcases hf k hk with h1 | h1
  · exact h.2.2 k h1
  · exact Nat.le_trans h.2.1.size h1
theorem Nx.kept {w wr w1 : World} {e : TypeId} {v : Value} {xs : List Value} (h : Nx w wr e v xs) {F : Nat → Prop} (hc : Chg wr w1 F) (hF : ∀ k, blkOf v k → ¬ F k) (hw : ∀ k, k < w.heap.size → ¬ F k) : Nx w w1 e v xs :=
  ⟨h.1.kept hc hF, h.2.1.trans hc (fun i hi hf => hw i hi hf), h.2.2⟩
theorem Nx.len {w wr : World} {e : TypeId} {a : Option Addr} {n c : Nat} {xs : List Value} (h : Nx w wr e (.slice a n c) xs) : n = xs.length := by
  obtain ⟨a', c', hv, _⟩ := h.1.form
  cases hv; rfl
theorem Nx.own {w wr : World} {e : TypeId} {a : Option Addr} {n c : Nat} {xs : List Value} (h : Nx w wr e (.slice a n c) xs) : Own wr e 1 (.slice a n c) n xs := by
  have := h.len; subst this; exact h.1
theorem Nx.form {w wr : World} {e : TypeId} {v : Value} {xs : List Value} (h : Nx w wr e v xs) : ∃ a n c, v = .slice a n c := by
  obtain ⟨a', c', hv, _⟩ := h.1.form
  exact ⟨_, _, _, hv⟩
theorem Nx.app1 {w wr w1 : World} {e : TypeId} {a : Option Addr} {n c : Nat} {v1 : Value} {xs us : List Value} (h : Nx w wr e (.slice a n c) xs) (ho : Own w1 e 1 v1 (n + 1) (xs ++ us)) (hc : Chg wr w1 (blkOf (.slice a n c))) (hf : ∀ k, blkOf v1 k → blkOf (.slice a n c) k ∨ wr.heap.size ≤ k) (hu : us.length = 1) : Nx w w1 e v1 (xs ++ us) :=
  Nx.app h ho hc hf (by rw [h.len, List.length_append, hu])
/-- A row stays where another row of another type grows. -/
theorem Nx.by {w wr w1 : World} {e e' : TypeId} {v v' : Value} {xs ys : List Value} (h : Nx w wr e v xs) (h' : Nx w wr e' v' ys) (hne : e ≠ e') (hc : Chg wr w1 (blkOf v')) : Nx w w1 e v xs :=
  h.kept hc (fun k hk hk' => h.1.apart h'.1 hne hk hk') (fun k hk hk' => by have := h'.2.2 k hk'; omega)
theorem seg_len {v : Int} (h : v ≤ 9223372036854775807) : (seg v).length ≤ 20 := by
  unfold seg
  split
  · simp
  · exact decD_len 19 v.toNat (by omega)
theorem flat_len : ∀ (t : List Int), (∀ v ∈ t, v ≤ 9223372036854775807) → (t.flatMap (fun u => 59 :: seg u)).length ≤ 21 * t.length
  | [], _ => by simp
  | v :: t, h => by
    have h1 := seg_len (h v (List.mem_cons_self ..))
    have h2 := flat_len t (fun x hx => h x (List.mem_cons_of_mem _ hx))
    rw [List.flatMap_cons, List.length_append, List.length_cons, List.length_cons]
    omega
theorem psL_len (t : List Int) (h : ∀ v ∈ t, v ≤ 9223372036854775807) : (psL t).length ≤ 21 * t.length := by
  cases t with
  | nil => simp [psL]
  | cons v t =>
    have h1 := seg_len (h v (List.mem_cons_self ..))
    have h2 := flat_len t (fun x hx => h x (List.mem_cons_of_mem _ hx))
    rw [psL, List.length_append, List.length_cons]
    omega
theorem optL_len (r : Int) : (optL r).length ≤ 1 := by unfold optL; split <;> simp
set_option maxRecDepth 100000 in
set_option maxHeartbeats 16000000 in
theorem EscControls_good (a0 : Option Addr) (len0 cap0 : Nat) (l0 : List Int) (a1 a2 a3 : Int) (w : World)
    (hr0 : Rd w 1 (.slice a0 len0 cap0) len0 (l0.map (Value.int .i64))) (hl0 : l0.length = len0) (y0 : len0 * 8 ≤ 140737488351232) (w0 : ∀ x ∈ l0, -9223372036854775808 ≤ x ∧ x ≤ 9223372036854775807)
    (w1 : -2147483648 ≤ a1 ∧ a1 ≤ 2147483647) (w2 : -2147483648 ≤ a2 ∧ a2 ≤ 2147483647) (w3 : -2147483648 ≤ a3 ∧ a3 ≤ 2147483647)
    (hl : l0.length ≤ 16) (f1 : 64 ≤ a3) (f2 : a3 ≤ 126) (hp : a1 = 0 ∨ (60 ≤ a1 ∧ a1 ≤ 63)) (hi : a2 = 0 ∨ (32 ≤ a2 ∧ a2 ≤ 47)) :
    Calls Try.prog 4 #[.slice a0 len0 cap0, .int .i32 a1, .int .i32 a2, .int .i32 a3] w fun e w' => e = .returned (.bool true) ∧ Chg w w' nob := by
  subst hl0
  have HR0 : Hid (Rd w 1 (.slice a0 l0.length cap0) l0.length (intI l0)) := Lib.hid hr0
  have HW0 := Lib.hid w0
  clear hr0 w0 y0 w1 w2 w3
  go_enter Try.func4, Try.ntmps4
  go_wp2_with fail
  go_at_call 7
  refine (efirst_any _).mono ?_
  rintro e wA ⟨rfl, hA⟩
  have HA := Lib.hid hA
  clear hA
  go_upto_region 3 with (fail)
  go_cut [52] (fun v wx => v = .bool false ∧ wx = wA)
  case first =>
    as_aux_lemma =>
      have m1 : ¬ (16 : Int) < (l0.length : Int) := by omega
      have m2 : ¬ a3 < 64 := by omega
      have m3 : ¬ 126 < a3 := by omega
      rcases hp with rfl | ⟨hp, hp'⟩
      · rcases hi with rfl | ⟨hi, hi'⟩
        · go_wp2
          go_meet
          exact ⟨rfl, rfl⟩
        · have m8 : (a2 != 0) = true := by simp; omega
          have m9 : ¬ a2 < 32 := by omega
          have m10 : ¬ 47 < a2 := by omega
          go_wp2
          go_meet
          exact ⟨rfl, rfl⟩
      · have m5 : (a1 != 0) = true := by simp; omega
        have m6 : ¬ a1 < 60 := by omega
        have m7 : ¬ 63 < a1 := by omega
        rcases hi with rfl | ⟨hi, hi'⟩
        · go_wp2
          go_meet
          exact ⟨rfl, rfl⟩
        · have m8 : (a2 != 0) = true := by simp; omega
          have m9 : ¬ a2 < 32 := by omega
          have m10 : ¬ 47 < a2 := by omega
          go_wp2
          go_meet
          exact ⟨rfl, rfl⟩
  case rest =>
  obtain ⟨rfl, rfl⟩ := hcut
  go_wp2_with fail
  go_at_call 8
  refine (h_new _).mono ?_
  rintro e wB ⟨p, rfl, hP, hB, -⟩
  have HP := Lib.hid (hP.before HA.out)
  clear hP hB
  go_upto_region 9 with (fail)
  have hnx0 : Hid (Nx wB (wB.alloc (.cells #[.int .i32 27, .int .i32 91] 21)) 21 (.slice (some ⟨wB.heap.size, 0, none⟩) 2 2) (runesV [27, 91])) := Lib.hid ⟨Own.lit wB 21 #[.int .i32 27, .int .i32 91] (by decide), (Chg.refl wB nob).alloc _, fun k hk => by cases hk; exact Nat.le_refl _⟩
  obtain ⟨wL, hwL⟩ : ∃ wL, wB.alloc (.cells #[.int .i32 27, .int .i32 91] 21) = wL := ⟨_, rfl⟩
  rw [hwL] at hnx0 ⊢
  clear hwL
  generalize (some ⟨wB.heap.size, 0, none⟩ : Option Addr) = la0 at *
  go_upto_if 59 with (fail)
  go_cut [10] (fun lv wx => Hid (Nx wB wx 21 lv (runesV (27 :: 91 :: optL a1))) ∧ ∃ a n c, lv = .slice a n c)
  case first =>
    by_cases h0 : a1 = 0
    · subst h0
      go_wp2
      go_meet
      exact ⟨hnx0, _, _, _, rfl⟩
    · have m5 : (a1 != 0) = true := by simpa using h0
      have ho : optL a1 = [a1] := by unfold optL; rw [if_neg h0]
      have HO := Lib.hid ho
      clear h0 ho
      go_wp2_with (at_builtin; refine wpList_push rfl (.tmp 60) (.tmp 62) 22 rfl 21 (.int .i32 0) 1 4 i_rune u_runes rfl (by decide) (.slice la0 2 2) 2 _ rfl hnx0.out.1 1 1 rfl rfl rfl (by unfold maxLen; omega) (by omega) ?_)
      intro v1 x1 ho1 hch1 hfo1
      have HNX := Lib.hid (Nx.app hnx0.out ho1 hch1 hfo1 rfl)
      obtain ⟨b1, c1, rfl, _⟩ := ho1.form
      clear ho1 hch1 hfo1
      go_wp2
      go_meet
      exact ⟨Lib.hid (by rw [HO.out]; exact HNX.out), _, _, _, rfl⟩
  case rest =>
  obtain ⟨HL, la, ln, lc, rfl⟩ := hcut
  have HW : Hid (Nx wB wc 3 (.slice none 0 0) (intI ((l0.take 0).map cl))) := Lib.hid ⟨World.ownsRow_nil _ _ _ _, HL.out.2.1, fun k hk => by cases hk⟩
  have hLL : runesV (27 :: 91 :: optL a1) = runesV (27 :: 91 :: (optL a1 ++ psL (l0.take 0))) := by simp [psL]
  rw [hLL] at HL
  clear hLL
  clear hnx0
  go_wp2
  go_loopw [10, 11, 12] (fun lv wv i wr => ∃ k : Nat, k ≤ l0.length ∧ i = .int .i64 k ∧ Hid (Nx wB wr 21 lv (runesV (27 :: 91 :: (optL a1 ++ psL (l0.take k))))) ∧ Hid (Nx wB wr 3 wv (intI ((l0.take k).map cl))))
    (fun _ _ i _ => l0.length - (intOf i).toNat)
  case atStart => exact ⟨0, Nat.zero_le _, rfl, HL, HW⟩
  case round =>
    obtain ⟨k, hk, rfl, HLk, HWk⟩ := hrel
    clear HL HW
    obtain ⟨lb, ln, lm, rfl⟩ := HLk.out.form
    obtain ⟨wb, wn, wm, rfl⟩ := HWk.out.form
    have hop := optL_len a1
    have hplen := psL_len (l0.take k) (fun v hv => (HW0.out v (List.mem_of_mem_take hv)).2)
    have hln : ln ≤ 500 := by
      rw [HLk.out.len]
      rw [List.length_take] at hplen
      simp [runesV]; omega
    have hwn : wn ≤ 500 := by
      rw [HWk.out.len]; simp [intI]; omega
    clear hop hplen
    by_cases hkl : k < l0.length
    · have hkn : (k : Int) < (l0.length : Int) := by omega
      have hlk : (l0.take k).length = k := by rw [List.length_take]; omega
      have hsn : l0.take (k + 1) = l0.take k ++ [l0.getD k 0] := take_snoc hkl 0
      have hpl : psL (l0.take (k + 1)) = psL (l0.take k) ++ (if k = 0 then [] else [59]) ++ seg (l0.getD k 0) := by
        rw [hsn, psL_snoc]
        by_cases h0 : k = 0
        · subst h0; simp
        · rw [if_neg (by intro h; rw [h] at hlk; simp at hlk; omega), if_neg h0]
      have hml : (l0.take (k + 1)).map cl = (l0.take k).map cl ++ [cl (l0.getD k 0)] := by rw [hsn]; simp
      have hvb := HW0.out (l0.getD k 0) (by simp [List.getD, hkl])
      obtain ⟨g, o, rfl, hcx⟩ := HR0.out.cell (j := k) (u := .int .i64 (l0.getD k 0)) (by simp [intI, List.getD, hkl])
      have hcy := fun wr (hc : Chg wB wr nob) => (HP.out.chg.trans hc (fun _ _ h => h)).cell hcx id
      have HCY := Lib.hid hcy
      generalize l0.getD k 0 = v at *
      have HPL := Lib.hid hpl
      have HML := Lib.hid hml
      have HLKN := Lib.hid hlk
      clear hpl hml hsn hcy hlk
      obtain ⟨S, hS⟩ : ∃ S : List Int, (if k = 0 then [] else [59]) = S := ⟨_, rfl⟩
      rw [hS] at HPL
      have HS := Lib.hid hS
      clear hS
      generalize psL (l0.take k) = L at *
      generalize (l0.take k).map cl = M at *
      go_upto_if 71 with (fail)
      go_cut [10] (fun lv wx => Hid (Nx wB wx 21 lv (runesV (27 :: 91 :: (optL a1 ++ (L ++ S))))) ∧ Hid (Nx wB wx 3 (.slice wb wn wm) (intI M)) ∧ ∃ a n c, lv = .slice a n c ∧ n ≤ 501)
      case first =>
        by_cases h0 : k = 0
        · subst h0
          go_wp2
          go_meet
          exact ⟨by rw [← HS.out, if_pos trivial, List.append_nil]; exact HLk, HWk, _, _, _, rfl, by omega⟩
        · have hk0 : (0 : Int) < (k : Int) := by omega
          have HK0 := Lib.hid h0
          clear h0
          go_wp2_with (at_builtin; refine wpList_push rfl (.tmp 72) (.tmp 73) 22 rfl 21 (.int .i32 0) 1 4 i_rune u_runes rfl (by decide) (.slice lb ln lm) ln _ rfl HLk.out.own 1 1 rfl rfl rfl (by unfold maxLen; omega) (by omega) ?_)
          intro v1 x1 ho1 hch1 hfo1
          have HN1 := Lib.hid (HLk.out.app1 ho1 hch1 hfo1 rfl)
          have HN2 := Lib.hid (HWk.out.by HLk.out (by decide) hch1)
          obtain ⟨b1, c1, rfl, _⟩ := ho1.form
          clear ho1 hch1 hfo1
          go_wp2
          go_meet
          exact ⟨Lib.hid (by rw [← HS.out, if_neg HK0.out]; have h := HN1.out; simpa [runesV] using h), HN2, _, _, _, rfl, by omega⟩
      case rest =>
      clear HLk HWk hln
      obtain ⟨HL1, HW1, b1, n1, c1, rfl, hn1⟩ := hcut
      have hcz := HCY.out _ HL1.out.2.1
      by_cases hv0 : v < 0
      · as_aux_lemma =>
          have hclv : cl v = -1 := by unfold cl; rw [if_pos hv0]
          have hsv : seg v = [] := by unfold seg; rw [if_pos hv0]
          rw [hclv] at HML
          rw [hsv, List.append_nil] at HPL
          clear hclv hsv
          go_wp2_with (at_builtin; refine wpList_push rfl (.tmp 80) (.tmp 81) 23 rfl 3 (.int .i64 0) 1 8 i_int u_ints rfl (by decide) (.slice wb wn wm) wn _ rfl HW1.out.own 1 1 rfl rfl rfl (by unfold maxLen; omega) (by omega) ?_)
          intro v1 x1 ho1 hch1 hfo1
          have HN1 := Lib.hid (HW1.out.app1 ho1 hch1 hfo1 rfl)
          have HN2 := Lib.hid (HL1.out.by HW1.out (by decide) hch1)
          obtain ⟨b2, c2, rfl, _⟩ := ho1.form
          clear ho1 hch1 hfo1 hcz
          go_wp2
          go_roundw
          case rel => exact ⟨k + 1, by omega, by go_num, by rw [HPL.out]; exact HN2, by rw [HML.out]; exact Lib.hid (by have h := HN1.out; simpa [intI] using h)⟩
          case measure => simp [intOf]; omega
      · as_aux_lemma =>
          obtain ⟨n, rfl⟩ := Int.eq_ofNat_of_zero_le (show 0 ≤ v by omega)
          have hclv : cl (n : Int) = mnI (n : Int) 9999 := by unfold cl; rw [if_neg hv0]
          have hsv : seg (n : Int) = decD n := by unfold seg; rw [if_neg hv0, Int.toNat_natCast]
          have hu64 : IntKind.u64.wrap (n : Int) = (n : Int) := wraps_u64 _ (by omega) (by omega)
          have hdb := Lib.hid (decD_byte n)
          have hdl := decD_len 19 n (by omega)
          rw [hclv] at HML
          rw [hsv] at HPL
          clear hclv hsv
          go_wp2_with fail
          go_at_call 14
          refine (dec_any n (by omega) _).mono ?_
          rintro e x2 ⟨rfl, hc2⟩
          have HL2 := Lib.hid (HL1.out.kept hc2 (fun _ _ => id) (fun _ _ => id))
          have HW2 := Lib.hid (HW1.out.kept hc2 (fun _ _ => id) (fun _ _ => id))
          have hsz : (strOfNums (decD n)).size = (decD n).length := strOfNums_size _
          generalize decD n = D at *
          clear hc2 HL1 HW1 hcz hu64
          go_wp2
          go_loopw [10, 14] (fun lv jv wr => ∃ i : Nat, i ≤ D.length ∧ jv = .int .i64 i ∧ Hid (Nx wB wr 21 lv (runesV (27 :: 91 :: (optL a1 ++ (L ++ (S ++ D.take i)))))) ∧ Hid (Nx wB wr 3 (.slice wb wn wm) (intI M)) ∧ ∃ a m c, lv = .slice a m c ∧ m ≤ 501 + i)
            (fun _ jv _ => D.length - (intOf jv).toNat)
          case atStart => exact ⟨0, Nat.zero_le _, rfl, by rw [List.take_zero, List.append_nil]; exact HL2, HW2, _, _, _, rfl, hn1⟩
          case round =>
            obtain ⟨i, hi, rfl, HLi, HWi, b3, n3, c3, rfl, hn3⟩ := hrel
            clear HL2 HW2
            have hcz := HCY.out _ HLi.out.2.1
            by_cases hiD : i < D.length
            · as_aux_lemma =>
                have hin : (i : Int) < (D.length : Int) := by omega
                have hsn : D.take (i + 1) = D.take i ++ [D.getD i 0] := take_snoc hiD 0
                have hcb := hdb.out (D.getD i 0) (by simp [List.getD, hiD])
                have hby : byteAt D i = D.getD i 0 := by unfold byteAt; omega
                generalize D.getD i 0 = c at *
                have hw4 : IntKind.i32.wrap c = c := wraps_i32 _ (by omega) (by omega)
                have HSN := Lib.hid hsn
                clear hsn hcz
                go_wp2_with (at_builtin; refine wpList_push rfl (.tmp 95) (.tmp 100) 22 rfl 21 (.int .i32 0) 1 4 i_rune u_runes rfl (by decide) (.slice b3 n3 c3) n3 _ rfl HLi.out.own 1 1 rfl rfl rfl (by unfold maxLen; omega) (by omega) ?_)
                intro v1 x1 ho1 hch1 hfo1
                have HN1 := Lib.hid (HLi.out.app1 (us := [.int .i32 c]) ho1 hch1 hfo1 rfl)
                have HN2 := Lib.hid (HWi.out.by HLi.out (by decide) hch1)
                obtain ⟨b4, c4, rfl, _⟩ := ho1.form
                clear ho1 hch1 hfo1
                go_wp2
                go_roundw
                case rel => exact ⟨i + 1, by omega, by go_num, Lib.hid (by rw [HSN.out]; have h := HN1.out; simpa [runesV] using h), HN2, _, _, _, rfl, by omega⟩
                case measure => simp [intOf]; omega
            · as_aux_lemma =>
                obtain rfl : i = D.length := by omega
                rw [List.take_length] at HLi
                go_wp2_with (at_builtin; refine wpList_push rfl (.tmp 102) (.tmp 108) 23 rfl 3 (.int .i64 0) 1 8 i_int u_ints rfl (by decide) (.slice wb wn wm) wn _ rfl HWi.out.own 1 1 rfl rfl rfl (by unfold maxLen; omega) (by omega) ?_)
                intro v1 x1 ho1 hch1 hfo1
                have HN1 := Lib.hid (HWi.out.app1 ho1 hch1 hfo1 rfl)
                have HN2 := Lib.hid (HLi.out.by HWi.out (by decide) hch1)
                obtain ⟨b4, c4, rfl, _⟩ := ho1.form
                clear ho1 hch1 hfo1 hcz
                go_wp2
                go_roundw
                case rel => exact ⟨k + 1, by omega, by go_num, Lib.hid (by rw [HPL.out, List.append_assoc]; exact HN2.out), by rw [HML.out]; exact Lib.hid (by have h := HN1.out; simpa [intI] using h)⟩
                case measure => simp [intOf]; omega
    · as_aux_lemma =>
        obtain rfl : k = l0.length := by omega
        rw [List.take_length] at HLk HWk
        have hwl : wn = l0.length := by rw [HWk.out.len]; simp [intI]
        subst hwl
        go_upto_region 25 with (fail)
        go_cut [118] (fun bv wx => wx = wr ∧ ∃ bb : Bool, bv = .bool bb ∧ Hid ((bb = true → wantL l0 = []) ∧ (bb = false → wantL l0 = l0.map cl)))
        case first =>
          as_aux_lemma =>
            by_cases h1 : l0.length = 1
            · obtain ⟨v, hv⟩ : ∃ v, l0 = [v] := by
                match l0, h1 with
                | [v], _ => exact ⟨v, rfl⟩
              have hcell : ∃ g, wb = some ⟨g, 0, none⟩ ∧ wr.cell? ⟨g, 0, none⟩ = some (.int .i64 (cl v)) := by
                have h := HWk.out.own
                obtain ⟨g, h2, h3⟩ := h.at (j := 0) (by omega)
                exact ⟨g, h2, by rw [h3, hv]; rfl⟩
              obtain ⟨g, rfl, hcell⟩ := hcell
              have h1t : ((l0.length : Int) == 1) = true := by simp; omega
              have hpos : (0 : Int) < (l0.length : Int) := by omega
              clear h1
              by_cases hv0 : v < 0
              · have hcv : cl v = -1 := by unfold cl; rw [if_pos hv0]
                have hwant : wantL l0 = [] := by rw [hv]; unfold wantL toldP; rw [if_neg (by simp; omega)]
                have HWA := Lib.hid hwant
                rw [hcv] at hcell
                clear hcv hwant hv
                go_wp2
                go_meet
                exact ⟨by first | rfl | trivial, true, rfl, Lib.hid ⟨fun _ => HWA.out, (fun h => by cases h)⟩⟩
              · have hcv : (cl v == -1) = false := by unfold cl mnI; rw [if_neg hv0]; simp; split <;> omega
                have hwant : wantL l0 = l0.map cl := by rw [hv]; unfold wantL toldP; rw [if_pos (by simp; omega)]
                have HWA := Lib.hid hwant
                clear hwant hv
                generalize cl v = cv at *
                go_wp2
                go_meet
                exact ⟨by first | rfl | trivial, false, rfl, Lib.hid ⟨(fun h => by cases h), fun _ => HWA.out⟩⟩
            · have h1' : ((l0.length : Int) == 1) = false := by simp; omega
              have hwant : wantL l0 = l0.map cl := by
                unfold wantL
                cases l0 with
                | nil => rfl
                | cons a t => cases t with
                  | nil => exact absurd rfl h1
                  | cons b t => rw [if_pos (by simp [toldP])]
              have HWA := Lib.hid hwant
              clear hwant h1
              go_wp2
              go_meet
              exact ⟨by first | rfl | trivial, false, rfl, Lib.hid ⟨(fun h => by cases h), fun _ => HWA.out⟩⟩
        case rest =>
        obtain ⟨rfl, bb, rfl, HBB⟩ := hcut
        go_upto_if 118 with (fail)
        go_cut [11] (fun wv wx => wx = wc ∧ Hid (Nx wB wc 3 wv (intI (wantL l0))) ∧ ∃ a n c, wv = .slice a n c)
        case first =>
          cases bb with
          | true =>
            have HWA := Lib.hid (HBB.out.1 rfl)
            go_wp2
            go_meet
            exact ⟨by first | rfl | trivial, Lib.hid (by rw [HWA.out]; exact ⟨World.ownsRow_nil _ _ _ _, HWk.out.2.1, fun k hk => by cases hk⟩), _, _, _, rfl⟩
          | false =>
            have HWA := Lib.hid (HBB.out.2 rfl)
            go_wp2
            go_meet
            exact ⟨by first | rfl | trivial, Lib.hid (by rw [HWA.out]; exact HWk.out), _, _, _, rfl⟩
        case rest =>
        clear HWk hwn
        obtain ⟨rfl, HWt, b1, n1, c1, rfl⟩ := hcut
        go_upto_if 120 with (fail)
        go_cut [10] (fun lv wx => Hid (Nx wB wx 21 lv (runesV (27 :: 91 :: (optL a1 ++ (psL l0 ++ optL a2))))) ∧ Hid (Nx wB wx 3 (.slice b1 n1 c1) (intI (wantL l0))) ∧ ∃ a n c, lv = .slice a n c ∧ n ≤ 501)
        case first =>
          by_cases h0 : a2 = 0
          · subst h0
            go_wp2
            go_meet
            exact ⟨Lib.hid (by rw [show optL 0 = [] from rfl, List.append_nil]; exact HLk.out), HWt, _, _, _, rfl, by omega⟩
          · have m5 : (a2 != 0) = true := by simpa using h0
            have ho : optL a2 = [a2] := by unfold optL; rw [if_neg h0]
            have HO := Lib.hid ho
            clear h0 ho
            go_wp2_with (at_builtin; refine wpList_push rfl (.tmp 121) (.tmp 123) 22 rfl 21 (.int .i32 0) 1 4 i_rune u_runes rfl (by decide) (.slice lb ln lm) ln _ rfl HLk.out.own 1 1 rfl rfl rfl (by unfold maxLen; omega) (by omega) ?_)
            intro v1 x1 ho1 hch1 hfo1
            have HN1 := Lib.hid (HLk.out.app1 (us := [.int .i32 a2]) ho1 hch1 hfo1 rfl)
            have HN2 := Lib.hid (HWt.out.by HLk.out (by decide) hch1)
            obtain ⟨b4, c4, rfl, _⟩ := ho1.form
            clear ho1 hch1 hfo1
            go_wp2
            go_meet
            exact ⟨Lib.hid (by rw [HO.out]; have h := HN1.out; simpa [runesV] using h), HN2, _, _, _, rfl, by omega⟩
        case rest =>
        clear HLk HWt hln
        obtain ⟨HLf, HWf, b5, n5, c5, rfl, hn5⟩ := hcut
        have hrun := run_control a1 a2 a3 l0 hp hi f1 f2 hl
        rw [List.append_assoc, List.append_assoc] at hrun
        have HRUN := Lib.hid hrun
        clear hrun
        go_wp2_with (at_builtin; refine wpList_push rfl (.tmp 126) (.tmp 128) 22 rfl 21 (.int .i32 0) 1 4 i_rune u_runes rfl (by decide) (.slice b5 n5 c5) n5 _ rfl HLf.out.own 1 1 rfl rfl rfl (by unfold maxLen; omega) (by omega) ?_)
        intro v1 x1 ho1 hch1 hfo1
        have hN1 := HLf.out.app1 (us := [.int .i32 a3]) ho1 hch1 hfo1 rfl
        have HN1 : Hid (Nx wB x1 21 v1 (runesV (27 :: 91 :: (optL a1 ++ (psL l0 ++ (optL a2 ++ [a3])))))) := Lib.hid (by simpa [runesV] using hN1)
        have HN2 := Lib.hid (HWf.out.by HLf.out (by decide) hch1)
        have HP1 := Lib.hid (HP.out.kept hN1.2.1)
        have HFR := Lib.hid (fun k hk => HP.out.pr.lt (k := k) hk)
        clear ho1 hch1 hfo1 hN1 HLf HWf
        have hlen : (27 :: 91 :: (optL a1 ++ (psL l0 ++ (optL a2 ++ [a3])))).length ≤ 600 := by
          have e1 := optL_len a1
          have e2 := optL_len a2
          have e3 := psL_len l0 (fun v hv => (HW0.out v hv).2)
          simp; omega
        go_wp2_with fail
        go_at_call 11
        refine (h_feed HP1.out _ (27 :: 91 :: (optL a1 ++ (psL l0 ++ (optL a2 ++ [a3])))) (by have h := HN1.out.1.rd; simpa [runesV] using h) (fun _ k hk hF => by have h1 := HN1.out.2.2 k hk; have h2 := HFR.out k hF; omega) (by omega)).mono ?_
        rw [HRUN.out]
        rintro e x2 ⟨v2, F2, D2, rfl, hP2, hE2, hC2, -, -⟩
        have HP2 := Lib.hid hP2
        have hwx : Rd x2 1 (.slice b1 n1 c1) (wantL l0).length (intI (wantL l0)) := by
          have h := (Own.kept HN2.out.1 hC2 (fun k hk hF => by have h1 := HN2.out.2.2 k hk; have h2 := HFR.out k hF; omega)).rd
          simpa [intI] using h
        have HE2 := Lib.hid hE2
        have HWX := Lib.hid hwx
        obtain ⟨g6, cap6, pv6, rfl, _, _, _, _, _⟩ := HE2.out.at (j := 0) rfl
        clear hP2 hE2 hC2 hwx HRUN HN1 HN2 HP1 HFR hlen
        go_wp2_with fail
        go_at_call 7
        refine (efirst_any _).mono ?_
        rintro e x3 ⟨rfl, h3⟩
        have HP3 := Lib.hid (HP2.out.kept h3)
        have hE3 := HE2.out.kept h3 (fun _ _ => id)
        have HW3 := Lib.hid (HWX.out.kept h3 (fun _ _ => id))
        obtain ⟨g7, cap7, pv7, hv7, _, _, hpv7, _, hcell⟩ := hE3.at (j := 0) rfl
        cases hv7
        have q0 := hcell 0 (by omega)
        have q1 := hcell 1 (by omega)
        have q2 := hcell 2 (by omega)
        have q3 := hcell 3 (by omega)
        have q4 := hcell 4 (by omega)
        have q5 := hcell 5 (by omega)
        have q6 := hcell 6 (by omega)
        simp only [evc, List.getElem?_cons_zero, List.getElem?_cons_succ, Nat.zero_mul, Nat.zero_add] at q0 q1 q2 q3 q4 q5 q6
        have HPV := Lib.hid hpv7
        obtain ⟨pa, pc, rfl, _, _⟩ := HPV.out.form
        have hwn2 : (wantL l0).length ≤ 16 := by unfold wantL; split <;> simp; omega
        clear h3 hE3 hcell hpv7 HP2 HE2 HWX
        go_wp2_with fail
        go_at_call 15
        refine (ints_eq _ _ _ (wantL l0) (wantL l0) HPV.out HW3.out (by omega) (by omega)).mono ?_
        rw [decide_eq_true rfl]
        rintro e x4 ⟨rfl, h4⟩
        have HP4 := Lib.hid (HP3.out.kept h4)
        have z1 := h4.cell q1 id
        have z6 := h4.cell q6 id
        clear h4 HP3 HW3 HPV q0 q1 q2 q3 q4 q5 q6
        go_wp2_with fail
        go_at_call 13
        refine (state_is HP4.out.pr 0 rfl).mono ?_
        rintro e w' ⟨rfl, rfl⟩
        go_wp2
        go_ret
        exact ⟨rfl, HP4.out.chg⟩

theorem EscControls_walk (a0 : Option Addr) (len0 cap0 : Nat) (l0 : List Int) (a1 a2 a3 : Int) (w : World)
    (hr0 : Rd w 1 (.slice a0 len0 cap0) len0 (l0.map (Value.int .i64))) (hl0 : l0.length = len0) (y0 : len0 * 8 ≤ 140737488351232) (w0 : ∀ x ∈ l0, -9223372036854775808 ≤ x ∧ x ≤ 9223372036854775807)
    (w1 : -2147483648 ≤ a1 ∧ a1 ≤ 2147483647) (w2 : -2147483648 ≤ a2 ∧ a2 ≤ 2147483647) (w3 : -2147483648 ≤ a3 ∧ a3 ≤ 2147483647) :
    Calls Try.prog 4 #[.slice a0 len0 cap0, .int .i32 a1, .int .i32 a2, .int .i32 a3] w fun e w' => e = .returned (.bool true) ∧ Chg w w' nob := by
  rcases guard_dec l0.length a1 a2 a3 with ⟨hl, ⟨f1, f2⟩, hp, hi⟩ | h
  · exact EscControls_good a0 len0 cap0 l0 a1 a2 a3 w hr0 hl0 y0 w0 w1 w2 w3 hl f1 f2 hp hi
  · exact EscControls_bad a0 len0 cap0 l0 a1 a2 a3 w hr0 hl0 y0 w0 w1 w2 w3 h
end Go.Proofs.Ytaficleoimfejaa
