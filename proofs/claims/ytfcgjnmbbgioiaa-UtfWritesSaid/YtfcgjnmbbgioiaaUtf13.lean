/-
  Chapter 3: the reference's decoder: Write, Flush.
-/
import Derived.Test.YtfcgjnmbbgioiaaUtf11
namespace Go.Proofs.Ytfcgjnmbbgioiaa
open Go.RowKit
set_option linter.unusedVariables false
set_option linter.unusedSimpArgs false
attribute [local go_sem ↓] run_cut_h run_cut_l

/-- The reference's decoder, whose waiting bytes are these. -/
def RDec (w : World) (b : Nat) (s : List Int) (F : Nat → Prop) : Prop :=
  ∃ v, Blk w b 29 #[v] ∧ Own w 5 1 v s.length (bytesV s) ∧ F = (fun k => k = b ∨ blkOf v k)
theorem RDec.kept {w w' : World} {b : Nat} {s : List Int} {F G : Nat → Prop} (h : RDec w b s F) (hc : Chg w w' G) (hG : ∀ k, F k → ¬ G k) : RDec w' b s F := by
  obtain ⟨v, hb, ho, rfl⟩ := h
  exact ⟨v, hb.kept hc (hG b (.inl rfl)), ho.kept hc (fun k hk => hG k (.inr hk)), rfl⟩
theorem RDec.lt {w : World} {b : Nat} {s : List Int} {F : Nat → Prop} (h : RDec w b s F) {k : Nat} (hk : F k) : k < w.heap.size := by
  obtain ⟨v, hb, ho, rfl⟩ := h
  rcases hk with rfl | hk
  · exact hb.lt
  · exact ho.lt hk
theorem RDec.apart {w : World} {b : Nat} {s : List Int} {F : Nat → Prop} {v : Value} {n : Nat} {ys : List Value} (h : RDec w b s F) (ho : Own w 21 1 v n ys) {k : Nat} (hk : blkOf v k) : ¬ F k := by
  obtain ⟨u, hb, hu, rfl⟩ := h
  rintro (rfl | hf)
  · exact ho.ne hb (by decide) hk
  · obtain ⟨c1, h1⟩ := ho.row hk
    obtain ⟨c2, h2⟩ := hu.row hf
    exact absurd (h1.inj h2).1 (by decide)

/-- The loop's state: behind m bytes the signs so far. -/
def RLoop (w2 w : World) (L : List Int) (m : Nat) (rest out : Value) (O : List Int) : Prop :=
  m ≤ L.length ∧ Rd w2 1 rest (L.length - m) (bytesV (L.drop m)) ∧ NilOk rest ∧ Own w 21 1 out O.length (runesV O) ∧ (∀ k, blkOf out k → w2.heap.size ≤ k) ∧ Chg w2 w nob ∧ O.length ≤ m ∧ runD [] L = ((runD [] (L.drop m)).1, O ++ (runD [] (L.drop m)).2)

theorem RLoop.step {w2 wr wX w5 : World} {L O : List Int} {m k p cr : Nat} {ar : Option Addr} {out v5 : Value} {x : Int} (h : RLoop w2 wr L m (.slice ar p cr) out O) (hX : Chg w2 wX nob) (ho : Own w5 21 1 v5 (O.length + 1) (runesV O ++ [.int .i32 x])) (hc : Chg wX w5 (blkOf out)) (hf : ∀ k, blkOf v5 k → blkOf out k ∨ wX.heap.size ≤ k)
    (hp : L.length - m = p) (hk : k ≤ p) (hk1 : 1 ≤ k) (hs : runD [] (L.drop m) = ((runD [] ((L.drop m).drop k)).1, x :: (runD [] ((L.drop m).drop k)).2)) :
    RLoop w2 w5 L (m + k) (.slice (addS ar cr k) (p - k) (cr - k)) v5 (O ++ [x]) := by
  obtain ⟨h1, h2, h3, h4, h5, h6, h7, h8⟩ := h
  rw [hp] at h2
  refine ⟨by omega, ?_, h3.cut, by simpa [runesV] using ho, fun j hj => ?_, hX.trans hc (fun i hi hb => by have := h5 i hb; omega), by simp; omega, ?_⟩
  · have h := h2.cut (l := k) (m := p) hk (Nat.le_refl _)
    have e : L.length - (m + k) = p - k := by omega
    have e2 : (bytesV (L.drop m)).take p = bytesV (L.drop m) := List.take_of_length_le (by simp [bytesV]; omega)
    rw [e2] at h
    rw [e, ← List.drop_drop]
    simpa [bytesV, List.map_drop] using h
  · rcases hf j hj with h | h
    · exact h5 j h
    · exact Nat.le_trans hX.size h
  · rw [h8, hs, ← List.drop_drop]; simp

set_option maxRecDepth 100000 in
set_option maxHeartbeats 8000000 in
theorem rwrite_any (w : World) (b : Nat) (F : Nat → Prop) (s : List Int) (va : Value) (xs : List Int) (h : RDec w b s F) (hs : runD [] s = (s, [])) (ha : Rd w 1 va xs.length (bytesV xs)) (hn : NilOk va)
    (hsx : ∀ x ∈ s ++ xs, 0 ≤ x ∧ x ≤ 255) (hls : s.length ≤ 4) (hl : xs.length ≤ 500000) :
    Calls Try.prog 13 #[.pointer (some ⟨b, 0, none⟩), va] w fun e w' =>
      ∃ v, e = .returned v ∧ Own w' 21 1 v (runD s xs).2.length (runesV (runD s xs).2) ∧ Chg w w' F ∧ (∃ F', RDec w' b (runD s xs).1 F' ∧ ∀ k, F' k → F k ∨ w.heap.size ≤ k) ∧ ∀ k, blkOf v k → w.heap.size ≤ k := by
  have hrun : runD [] (s ++ xs) = runD s xs := by rw [runD_append, hs]; rfl
  rw [← hrun]
  have hll : (s ++ xs).length ≤ 500004 := by simp; omega
  have hle : Hid (bytesV s ++ bytesV xs = bytesV (s ++ xs) ∧ s.length + xs.length = (s ++ xs).length) := Lib.hid (by simp [bytesV])
  have HSX := Lib.hid hsx
  clear hrun hs hsx
  obtain ⟨L, hL⟩ : ∃ L, s ++ xs = L := ⟨_, rfl⟩
  rw [hL] at hll hle HSX ⊢
  clear hL
  obtain ⟨vs, hb, ho, rfl⟩ := h
  obtain ⟨aa, cs, rfl, _⟩ := ho.form
  obtain ⟨a1, c1, rfl, hc1, _⟩ := ha.form
  have hc0 : w.cell? ⟨b, 0, none⟩ = some (.slice aa s.length cs) := by rw [hb.cell]; rfl
  have HB := Lib.hid hb
  have HO := Lib.hid ho
  have HA := Lib.hid ha
  have HN := Lib.hid (ha.nil0 hn)
  clear hb ho ha hn
  go_enter Try.func13, Try.ntmps13
  go_wp2_with fail
  go_at_call 22
  refine (copy_any w _ s HO.out.rd HO.out.nilOk (by omega)).mono ?_
  rintro e wB ⟨vB, rfl, hoB, hcB, hbB⟩
  have HCB := Lib.hid hcB
  have HBB := Lib.hid hbB
  have hnews := Lib.hid (HA.out.kept hcB (fun _ _ => id)).news
  have hone := Lib.hid (bytes_one xs)
  clear hcB hbB
  go_wp2_with (at_builtin; refine wpList_app rfl (.tmp 12) (.tmp 13) 22 rfl 5 (.int .u8 0) 1 1 i_byte u_bytes rfl (by decide) _ s.length _ rfl hoB a1 xs.length c1 (bytesV xs) rfl HN.out (by simp [bytesV]) hnews.out hone.out (by unfold maxLen; omega) (by omega) ?_)
  intro v2 w2 ho2 hch2 hfo2
  have ho2' : Own w2 5 1 v2 L.length (bytesV L) := by rw [← hle.out.1, ← hle.out.2]; exact ho2
  have HC2 : Hid (Chg w w2 nob) := Lib.hid (HCB.out.trans hch2 (fun i hi h => by have := HBB.out i h; omega))
  have HB2 := Lib.hid (HB.out.kept HC2.out id)
  have HL : Hid (RLoop w2 w2 L 0 v2 (.slice none 0 0) []) := Lib.hid ⟨Nat.zero_le _, by simpa using ho2'.rd, ho2'.nilOk, World.ownsRow_nil w2 0 21 1, (fun k hk => by cases hk), Chg.refl _ _, Nat.le_refl _, by simp⟩
  clear ho2 ho2' hch2 hfo2 hnews hone hoB hc0
  go_wp2_with fail
  go_loopw [1, 5, 6, 7] (fun rest out kk nn wr => ∃ m : Nat, ∃ O, Hid (RLoop w2 wr L m rest out O) ∧ (∃ ar cr, rest = .slice ar (L.length - m) cr)) (fun rest _ _ _ _ => match rest with | .slice _ n _ => n | _ => 0)
  case atStart =>
    refine ⟨0, [], HL, ?_⟩
    obtain ⟨ao, cap, hv, _⟩ := HL.out.2.1.form
    exact ⟨ao, cap, hv⟩
  case round =>
    obtain ⟨m, O, HI, ar, cr, rfl⟩ := hrel
    clear HL
    by_cases hml : m < L.length
    · obtain ⟨hm, hrd, hnk, hoo, hob, hcw, hlo, hru⟩ := HI.out
      have hrd' := hrd.kept hcw (fun _ _ => id)
      have hR0 : L.drop m ≠ [] := by intro h; have := congrArg List.length h; simp at this; omega
      have hRl : (L.drop m).length = L.length - m := List.length_drop
      have hby : Hid (∀ x ∈ L.drop m, 0 ≤ x ∧ x ≤ 255) := fun x hx => HSX.out x (List.mem_of_mem_drop hx)
      have HR : Hid (L.drop m = L.drop m) := rfl
      have HRD := Lib.hid hrd'
      have HR0 := Lib.hid hR0
      have HRL := Lib.hid hRl
      have hcr := HRD.out.form
      obtain ⟨ao, cap, hv, hcap, _⟩ := hcr
      cases hv
      have HOO := Lib.hid (show Own wr 21 1 u5 O.length (runesV O) ∧ Chg w2 wr nob from ⟨hoo, hcw⟩)
      clear hrd hrd' hR0 hRl hoo hob hcw hru hnk hm
      generalize hp : L.length - m = p at *
      have hpz : ((p : Int) > 0) := by omega
      go_wp2_with fail
      go_at_call 23
      refine (front_any wr _ (L.drop m) (by rw [HRL.out]; exact HRD.out) HR0.out (by rw [HRL.out]; omega)).mono ?_
      rintro e wF ⟨k, n, rfl, hfr, hcF⟩
      have hk1 := hfr.2.1
      have hkp : k ≤ p := by rw [← HRL.out]; exact hfr.2.2.1
      have HFR := Lib.hid hfr
      have HO2 := Lib.hid (show Own wF 21 1 u5 O.length (runesV O) ∧ Chg w2 wF nob ∧ Rd wF 1 (.slice ar p cr) p (bytesV (L.drop m)) from ⟨HOO.out.1.kept hcF (fun _ _ => id), HOO.out.2.trans hcF (fun _ _ h => h), HRD.out.kept hcF (fun _ _ => id)⟩)
      clear hfr hcF HOO HRD
      have hkc : (k : Int) ≤ (cr : Int) := by omega
      have hkq : (k : Int) ≤ (p : Int) := by omega
      by_cases hkn : k = n
      · subst hkn
        have hkk : ((k : Int) == (k : Int)) = true := by simp
        have hrk : Hid (Rd wF 1 (.slice (addS ar cr 0) k cr) ((L.drop m).take k).length (bytesV ((L.drop m).take k))) := by
          have h := HO2.out.2.2.cut (l := 0) (m := k) (Nat.zero_le _) hkp
          have e : ((L.drop m).take k).length = k := by rw [List.length_take, HRL.out]; omega
          unfold Hid
          rw [e]; simpa [bytesV, List.map_take] using h
        have hk4 : k ≤ 4 := by have h1 := HFR.out.1; have h2 := (lenB_le ((L.drop m).headD 0)).2; omega
        go_wp2_with fail
        go_at_call 24
        refine (number_any wF _ ((L.drop m).take k) hrk.out (by rw [List.length_take, HRL.out]; omega) (by rw [List.length_take]; omega) (fun x hx => hby.out x (List.mem_of_mem_take hx))).mono ?_
        rintro e wG ⟨rfl, hcG⟩
        have HO3 := Lib.hid (show Own wG 21 1 u5 O.length (runesV O) ∧ Chg w2 wG nob from ⟨HO2.out.1.kept hcG (fun _ _ => id), HO2.out.2.1.trans hcG (fun _ _ h => h)⟩)
        have HWH := Lib.hid (front_whole HFR.out)
        clear hcG
        generalize signR ((L.drop m).take k) = sg at *
        go_wp2_with (at_builtin; refine wpList_push rfl (.tmp 30) (.tmp 35) 31 rfl 21 (.int .i32 0) 1 4 i_rune u_runes rfl (by decide) _ O.length _ rfl HO3.out.1 1 1 rfl rfl rfl (by unfold maxLen; omega) (by omega) ?_)
        intro v5 w5 ho5 hch5 hfo5
        have HL5 : Hid (RLoop w2 w5 L (m + k) (.slice (addS ar cr k) (p - k) (cr - k)) v5 (O ++ [sg])) := Lib.hid (HI.out.step HO3.out.2 ho5 hch5 hfo5 hp hkp hk1 HWH.out)
        clear ho5 hch5 hfo5
        go_wp2
        go_roundw
        case rel =>
          have e : L.length - (m + k) = p - k := by omega
          exact ⟨m + k, _, HL5, _, _, by rw [e]⟩
        case measure => show p - k < p; omega
      · have hkk : ((k : Int) == (n : Int)) = false := by simp; omega
        by_cases hw : 0 < n ∧ k = p
        · obtain ⟨hw1, rfl⟩ := hw
          have hw2 : (0 : Int) < (n : Int) := by omega
          have hkk2 : ((k : Int) == (k : Int)) = true := by simp
          have HWT : Hid (runD [] (L.drop m) = (L.drop m, [])) := Lib.hid (by
            have h := HFR.out
            rw [← HRL.out] at h
            exact front_waits h hw1 (by rw [HRL.out]; exact hkn))
          go_wp2_with fail
          go_at_call 22
          refine (copy_any wF _ (L.drop m) (by rw [HRL.out]; exact HO2.out.2.2) HI.out.2.2.1 (by rw [HRL.out]; omega)).mono ?_
          rintro e wG ⟨vc, rfl, hoG, hcG, hbG⟩
          rw [HRL.out] at hoG
          obtain ⟨ac, cc, rfl, _⟩ := hoG.form
          have hbz : Blk wG b 29 #[.slice aa s.length cs] := (HB2.out.kept HO2.out.2.1 id).kept hcG id
          have hfz : wG.frozen? ⟨b, 0, none⟩ = false := hbz.free 0
          have hcz : wG.cell? ⟨b, 0, none⟩ = some (.slice aa s.length cs) := by rw [hbz.cell]; rfl
          have HO3 := Lib.hid (HO2.out.1.kept hcG (fun _ _ => id))
          have HC3 := Lib.hid (HC2.out.trans (HO2.out.2.1.trans hcG (fun _ _ h => h)) (fun _ _ h => h))
          have HBZ := Lib.hid hbz
          have HOG := Lib.hid hoG
          have HBG := Lib.hid hbG
          have HFS : Hid (w.heap.size ≤ wF.heap.size) := Lib.hid (Nat.le_trans HC2.out.size HO2.out.2.1.size)
          clear hoG hcG hbG hbz
          go_wp2
          go_ret
          have hru : runD [] L = (L.drop m, O) := by have h := HI.out.2.2.2.2.2.2.2; rw [h, HWT.out]; simp
          rw [hru]
          refine ⟨_, rfl, HO3.out.setOther (HO3.out.ne HBZ.out (by decide)) _, HC3.out.mono (fun _ _ h => h.elim) |>.setCell (.inl (.inl rfl)) _, ⟨_, ⟨_, HBZ.out.set 0 _, ?_, rfl⟩, ?_⟩, fun j hj => Nat.le_trans HC2.out.size (HI.out.2.2.2.2.1 j hj)⟩
          · rw [HRL.out]
            exact HOG.out.setOther (p := ⟨b, 0, none⟩) (HOG.out.ne HBZ.out (by decide)) _
          · rintro j (rfl | hj)
            · exact .inl (.inl rfl)
            · exact .inr (Nat.le_trans HFS.out (HBG.out j hj))
        · have hw8 : n = 0 ∨ k ≠ (L.drop m).length := by rw [HRL.out]; omega
          have HBAD := Lib.hid (front_bad HFR.out hkn hw8)
          rcases (show n = 0 ∨ (0 < n ∧ k ≠ p) by omega) with hz | ⟨hz, hz'⟩
          · subst hz
            go_wp2_with (at_builtin; refine wpList_push rfl (.tmp 23) (.tmp 24) 31 rfl 21 (.int .i32 0) 1 4 i_rune u_runes rfl (by decide) _ O.length _ rfl HO2.out.1 1 1 rfl rfl rfl (by unfold maxLen; omega) (by omega) ?_)
            intro v5 w5 ho5 hch5 hfo5
            have HL5 : Hid (RLoop w2 w5 L (m + k) (.slice (addS ar cr k) (p - k) (cr - k)) v5 (O ++ [65533])) := Lib.hid (HI.out.step HO2.out.2.1 ho5 hch5 hfo5 hp hkp hk1 HBAD.out)
            clear ho5 hch5 hfo5
            go_wp2
            go_roundw
            case rel =>
              have e : L.length - (m + k) = p - k := by omega
              exact ⟨m + k, _, HL5, _, _, by rw [e]⟩
            case measure => show p - k < p; omega
          · have hw2 : (0 : Int) < (n : Int) := by omega
            have hw3 : ((k : Int) == (p : Int)) = false := by simp; omega
            go_wp2_with (at_builtin; refine wpList_push rfl (.tmp 23) (.tmp 24) 31 rfl 21 (.int .i32 0) 1 4 i_rune u_runes rfl (by decide) _ O.length _ rfl HO2.out.1 1 1 rfl rfl rfl (by unfold maxLen; omega) (by omega) ?_)
            intro v5 w5 ho5 hch5 hfo5
            have HL5 : Hid (RLoop w2 w5 L (m + k) (.slice (addS ar cr k) (p - k) (cr - k)) v5 (O ++ [65533])) := Lib.hid (HI.out.step HO2.out.2.1 ho5 hch5 hfo5 hp hkp hk1 HBAD.out)
            clear ho5 hch5 hfo5
            go_wp2
            go_roundw
            case rel =>
              have e : L.length - (m + k) = p - k := by omega
              exact ⟨m + k, _, HL5, _, _, by rw [e]⟩
            case measure => show p - k < p; omega
    · have hpz : L.length - m = 0 := by omega
      obtain ⟨hm, hrd, hnk, hoo, hob, hcw, hlo, hru⟩ := HI.out
      have hd : L.drop m = [] := List.drop_eq_nil_of_le (by omega)
      rw [hd] at hru
      have hbz : Blk wr b 29 #[.slice aa s.length cs] := HB2.out.kept hcw id
      have hfz : wr.frozen? ⟨b, 0, none⟩ = false := hbz.free 0
      have hcz : wr.cell? ⟨b, 0, none⟩ = some (.slice aa s.length cs) := by rw [hbz.cell]; rfl
      have HO3 := Lib.hid hoo
      have HC3 := Lib.hid (HC2.out.trans hcw (fun _ _ h => h))
      have HBZ := Lib.hid hbz
      have HRU : Hid (runD [] L = ([], O)) := Lib.hid (by rw [hru]; simp [runD])
      rw [hpz]
      clear hm hrd hnk hoo hob hcw hlo hru hbz hd hpz
      go_wp2
      go_ret
      rw [HRU.out]
      refine ⟨_, rfl, HO3.out.setOther (HO3.out.ne HBZ.out (by decide)) _, HC3.out.mono (fun _ _ h => h.elim) |>.setCell (.inl (.inl rfl)) _, ⟨_, ⟨_, HBZ.out.set 0 _, World.ownsRow_nil _ _ _ _, rfl⟩, ?_⟩, fun j hj => Nat.le_trans HC2.out.size (HI.out.2.2.2.2.1 j hj)⟩
      rintro j (rfl | hj)
      · exact .inl (.inl rfl)
      · cases hj
end Go.Proofs.Ytfcgjnmbbgioiaa
