/-
  PeerRoams: the address is the one that the newest authentic datagram came from.
-/
import Derived.Test.YtajcefdbljbmdaaDoorPeer5
namespace Go.Proofs.YtajcefdbljbmdaaDoor
open Go.RowKit
set_option linter.unusedVariables false
set_option linter.unusedSimpArgs false

/-- The i-th datagram: one byte, of the number i + 1. -/
def dg (i : Nat) : Pk := ⟨2, 3, (i : Int) + 1, [(i : Int)]⟩
theorem dg_may (i : Nat) (h : i < 10) : (dg i).May := ⟨.inr rfl, by (show (0 : Int) ≤ 3); decide, by (show (3 : Int) < 8); decide, by (show (1 : Int) ≤ (i : Int) + 1); omega, by (show (i : Int) + 1 ≤ _); omega, by (show 1 ≤ 1200); decide⟩
def dgs (K : List Int) (n : Nat) : List (List Int) := (List.range n).map fun i => sealL K (dg i)
theorem dgs_succ (K : List Int) (n : Nat) : dgs K (n + 1) = dgs K n ++ [sealL K (dg n)] := by simp [dgs, List.range_succ]
theorem dgs_len (K : List Int) (n : Nat) : (dgs K n).length = n := by simp [dgs]
theorem dgs_at (K : List Int) (n i : Nat) (h : i < n) : (dgs K n).getD i [] = sealL K (dg i) := by simp [dgs, List.getD, h]
theorem dg_byte (K : List Int) (i : Nat) (h : i < 10) : ∀ x ∈ sealL K (dg i), 0 ≤ x ∧ x ≤ 255 := sealL_byte _ _ (by intro x hx; simp [dg] at hx; subst hx; omega)
theorem dg_len (K : List Int) (i : Nat) : (sealL K (dg i)).length = 27 := by rw [sealL_len]; rfl
theorem short_take (s : Pe) (fr : Int) (b : List Int) (h : b.length < 26) : takeX s fr b = (s, [], 3) := by
  unfold takeX openL
  rw [if_pos h]
  simp
def inRoams (a b c : Nat) : Prop := a ≤ 1000 ∧ b ≤ 100 ∧ b ≤ c
attribute [local go_sem ↓] run_max_two run_cut_h
set_option maxRecDepth 100000 in
set_option maxHeartbeats 1500000 in
theorem PeerRoams_walk (a0 : Option Addr) (len0 cap0 : Nat) (a1 : Option Addr) (len1 cap1 : Nat) (a2 : Option Addr) (len2 cap2 : Nat) (w : World) (l0 l1 l2 : List Int)
    (hr0 : Rd w 1 (.slice a0 len0 cap0) len0 (l0.map (Value.int .u8))) (hr1 : Rd w 1 (.slice a1 len1 cap1) len1 (l1.map (Value.int .i64))) (hr2 : Rd w 1 (.slice a2 len2 cap2) len2 (l2.map (Value.int .i64))) (hl0 : l0.length = len0) (hl1 : l1.length = len1) (hl2 : l2.length = len2) (y0 : len0 * 1 ≤ 140737488351232) (y1 : len1 * 8 ≤ 140737488351232) (y2 : len2 * 8 ≤ 140737488351232)
    (w0 : ∀ x ∈ l0, 0 ≤ x ∧ x ≤ 255) (w1 : ∀ x ∈ l1, -9223372036854775808 ≤ x ∧ x ≤ 9223372036854775807) (w2 : ∀ x ∈ l2, -9223372036854775808 ≤ x ∧ x ≤ 9223372036854775807)
    (nk0 : NilOk (.slice a0 len0 cap0)) (nk1 : NilOk (.slice a1 len1 cap1)) (nk2 : NilOk (.slice a2 len2 cap2)) (ht : Tab w) :
    Calls Tryd.prog 12 #[.slice a0 len0 cap0, .slice a1 len1 cap1, .slice a2 len2 cap2] w fun e w' => e = .returned (.bool true) ∧ Chg w w' nob := by
  subst hl0 hl1 hl2
  have K0 : Hid (By w (.slice a0 l0.length cap0) l0) := Lib.hid ⟨hr0, nk0, w0⟩
  have HR1 := Lib.hid hr1
  have HR2 := Lib.hid hr2
  have HW1 := Lib.hid w1
  have HW2 := Lib.hid w2
  have HT := Lib.hid ht
  have i0 : (0 : Int) ≤ (l0.length : Int) := by omega
  have i1 : (0 : Int) ≤ (l1.length : Int) := by omega
  have i2 : (0 : Int) ≤ (l2.length : Int) := by omega
  clear hr0 hr1 hr2 nk0 nk1 nk2 w0 w1 w2 ht
  go_enter Tryd.func12, Tryd.ntmps12
  go_wp2_with fail
  go_at_call 37
  refine (first27_any w HT.out).mono ?_
  rintro e w1 ⟨rfl, hck⟩
  have HC := Lib.hid hck
  clear hck
  go_wp2_with fail
  go_at_call 39
  refine (pnew_ok w1 l0 _ 2 3 0 (K0.out.kept HC.out) (by omega) ⟨.inr rfl, by decide, by decide, by decide⟩).mono ?_
  rintro e w2 ⟨ga, gwa, ua, rfl, hpa, hca, hga, hgwa, hua⟩
  have HA := Lib.hid hpa
  have HGA : Hid (w.heap.size ≤ ga ∧ w.heap.size ≤ gwa ∧ ga < w2.heap.size ∧ gwa < w2.heap.size) := Lib.hid ⟨Nat.le_trans HC.out.size hga, Nat.le_trans HC.out.size hgwa, hpa.blk.lt, hpa.win.lt⟩
  replace HC : Hid (Chg w w2 nob) := Lib.hid (HC.out.trans hca (fun _ _ h => h))
  clear hpa hca hga hgwa hua
  go_wp2_with fail
  go_at_call 39
  refine (pnew_ok w2 l0 _ 1 3 0 (K0.out.kept HC.out) (by omega) ⟨.inl rfl, by decide, by decide, by decide⟩).mono ?_
  rintro e w4 ⟨gb, gwb, ub, rfl, hpb, hck, hgb, hgwb, hub⟩
  have HB := Lib.hid hpb
  have HNE : Hid (ga ≠ gb ∧ gwa ≠ gwb) := Lib.hid (by have h1 := HGA.out; constructor <;> omega)
  have HGB : Hid (w.heap.size ≤ gb ∧ w.heap.size ≤ gwb) := Lib.hid (by have h1 := HC.out.size; constructor <;> omega)
  replace HC : Hid (Chg w w4 nob) := Lib.hid (HC.out.trans hck (fun _ _ h => h))
  replace HA := Lib.hid (HA.out.kept hck)
  clear hpb hgb hgwb hub hck
  by_cases hin : inRoams l0.length l1.length l2.length
  · obtain ⟨h1, h2, h3⟩ := hin
    have j0 : (l0.length : Int) ≤ 1000 := by omega
    have j1 : (l1.length : Int) ≤ 100 := by omega
    have j2 : (l1.length : Int) ≤ (l2.length : Int) := by omega
    have j2' : decide ((l2.length : Int) < (l1.length : Int)) = false := by simp; omega
    have j2n : decide (l2.length < l1.length) = false := by simp; omega
    have HKB : Hid ((∀ x ∈ l0, 0 ≤ x ∧ x ≤ 255) ∧ l0.length ≤ 1000000) := Lib.hid ⟨K0.out.byte, by omega⟩
    go_wp2_with fail
    go_loopw [11, 12, 13, 14] (fun pv iv _ _ wr => ∃ i : Nat, i ≤ 10 ∧ iv = .int .i64 i ∧ Hid (Pt w wr pv (dgs l0 i)) ∧ Hid (PeerR wr ga gwa ua ⟨l0, 2, 3, (i : Int), 0, -1⟩) ∧ Hid (PeerR wr gb gwb ub ⟨l0, 1, 3, 0, 0, -1⟩) ∧ ∃ ap cp, pv = .slice ap i cp) (fun _ iv _ _ _ => 10 - (intOf iv).toNat)
    case atStart => exact ⟨0, by omega, rfl, Lib.hid ((Pt.nil w).kept HC.out), HA, HB, none, 0, rfl⟩
    case round =>
      obtain ⟨i, hi, rfl, HP, HA1, HB1, ap, cp, rfl⟩ := hrel
      clear HA HB HC
      by_cases hil : i < 10
      · have hii : (i : Int) < 10 := by omega
        have hi0 : (0 : Int) ≤ (i : Int) := by omega
        have hib : IntKind.u8.wrap (i : Int) = (i : Int) := wraps_u8 _ (by omega) (by omega)
        go_wp2_with fail
        go_at_call 41
        obtain ⟨w5, hw5⟩ : ∃ W, wr.alloc (.cells #[.int .u8 (i : Int)] 5) = W := ⟨_, rfl⟩
        have hb5 : By w5 (.slice (some ⟨wr.heap.size, 0, none⟩) 1 1) [(i : Int)] := by rw [← hw5]; exact By.lit wr [(i : Int)] (by intro x hx; simp at hx; subst hx; omega)
        have hck : Chg wr w5 nob := by rw [← hw5]; exact (Chg.refl wr nob).alloc _
        rw [hw5]
        replace HA1 := Lib.hid (HA1.out.kept hck)
        replace HB1 := Lib.hid (HB1.out.kept hck)
        replace HP := Lib.hid (HP.out.kept hck)
        clear hck hw5
        have hsd := psend_any w5 ga gwa ua _ ⟨l0, 2, 3, (i : Int), 0, -1⟩ [(i : Int)] (HT.out.kept HP.out.chg id) HA1.out ⟨HKB.out, .inr rfl, by (show (0 : Int) ≤ 3 ∧ (3 : Int) < 8); decide, by (show 0 ≤ (i : Int) ∧ (i : Int) ≤ _); omega⟩ hb5
        have he : sendE ⟨l0, 2, 3, (i : Int), 0, -1⟩ [(i : Int)] = 0 := by unfold sendE; rw [if_neg (by (show ¬ 4611686018427387904 ≤ (i : Int)); omega), if_neg (by (show ¬ 1200 < 1); decide)]
        have hL : sendL ⟨l0, 2, 3, (i : Int), 0, -1⟩ [(i : Int)] = sealL l0 (dg i) := by unfold sendL; rw [if_pos he]; rfl
        have hS : sendS ⟨l0, 2, 3, (i : Int), 0, -1⟩ [(i : Int)] = ⟨l0, 2, 3, (i : Int) + 1, 0, -1⟩ := by unfold sendS; rw [if_pos he]
        rw [he, hL, hS] at hsd
        refine hsd.mono ?_
        clear hsd he hL hS hb5
        rintro e w6 ⟨x, rfl, hfx, hpa, hck⟩
        have hck2 : Chg w5 w6 (two ga gwa) := hck.one
        replace HB1 := Lib.hid (HA1.out.other HB1.out hck2 HNE.out.1 HNE.out.2)
        replace HP : Hid (Pt w w6 (.slice ap i cp) (dgs l0 i)) := Lib.hid (HP.out.apart hck2 (fun k hk => by
          rcases hk with rfl | rfl
          · exact ⟨HGA.out.1, _, _, HA1.out.blk, by decide, by decide⟩
          · exact ⟨HGA.out.2.1, _, _, HA1.out.win, by decide, by decide⟩))
        replace HA1 := Lib.hid hpa
        have hl27 := dg_len l0 i
        obtain ⟨ax, cx, rfl, _⟩ := hfx.1.form
        have HX : Hid (Own w6 5 1 (.slice ax 27 cx) (sealL l0 (dg i)).length (bytesV (sealL l0 (dg i)))) := Lib.hid (by have h := hfx.1; rw [hl27] at h ⊢; exact h)
        rw [hl27]
        clear hfx hpa hck hck2 hl27
        go_wp2_with (at_builtin; refine wpList_pt rfl (.tmp 93) (.tmp 95) rfl HP.out (.slice ax 27 cx) (sealL l0 (dg i)) HX.out (dg_byte l0 i hil) (by rw [dgs_len]; omega) rfl rfl ?_)
        intro pv2 w7 hp2 hc2 _ hrow
        have HP2 : Hid (Pt w w7 pv2 (dgs l0 (i + 1))) := Lib.hid (by rw [dgs_succ]; exact hp2)
        have HA2 := Lib.hid (HA1.out.rows hc2 hrow)
        have HB2 := Lib.hid (HB1.out.rows hc2 hrow)
        obtain ⟨ap2, cp2, hpv, _⟩ := HP2.out.form
        rw [dgs_len] at hpv
        subst hpv
        clear hp2 hc2 hrow HP HA1 HB1 HX
        go_wp2
        go_roundw
        case rel => exact ⟨i + 1, by omega, by go_num, HP2, by simpa using HA2, HB2, _, _, rfl⟩
        case measure => simp [intOf]; omega
      · obtain rfl : i = 10 := by omega
        clear hil hi
        rename World => wq
        rw [show ((10 : Nat) : Int) = 10 from rfl]
        go_wp2_with fail
        go_loopw [15, 16, 17, 18, 19] (fun wv lv iv _ _ wr => ∃ (i : Nat) (la wa : Int), i ≤ l1.length ∧ wv = .int .i64 wa ∧ lv = .int .i64 la ∧ iv = .int .i64 i ∧ -1 ≤ la ∧ la ≤ 9 ∧ Hid (PeerR wr gb gwb ub ⟨l0, 1, 3, 0, la + 1, wa⟩) ∧ Hid (Pt w wr (.slice ap 10 cp) (dgs l0 10))) (fun _ _ iv _ _ _ => l1.length - (intOf iv).toNat)
        case atStart => exact ⟨0, -1, -1, by omega, rfl, rfl, rfl, by omega, by omega, HB1, HP⟩
        case round =>
          obtain ⟨i, la, wa, hi, rfl, rfl, rfl, ha1, ha2, HB2, HP2⟩ := hrel
          clear HB1 HP HA1
          by_cases hil : i < l1.length
          · have hii : (i : Int) < (l1.length : Int) := by omega
            have hi0 : (0 : Int) ≤ (i : Int) := by omega
            have hil2 : i < l2.length := by omega
            have hii2 : (i : Int) < (l2.length : Int) := by omega
            obtain ⟨gk, ok, rfl, hck⟩ := HR1.out.cell (j := i) (u := .int .i64 (l1.getD i 0)) (by simp [List.getD, hil])
            obtain ⟨gf, of, rfl, hcf⟩ := HR2.out.cell (j := i) (u := .int .i64 (l2.getD i 0)) (by simp [List.getD, hil2])
            have hxb := HW1.out (l1.getD i 0) (by simp [List.getD, hil])
            have hfb := HW2.out (l2.getD i 0) (by simp [List.getD, hil2])
            obtain ⟨x, hx⟩ : ∃ x, l1.getD i 0 = x := ⟨_, rfl⟩
            obtain ⟨f, hf⟩ : ∃ x, l2.getD i 0 = x := ⟨_, rfl⟩
            rw [hx] at hck hxb
            rw [hf] at hcf hfb
            obtain ⟨xb1, xb2⟩ := hxb
            obtain ⟨fb1, fb2⟩ := hfb
            have CX := Lib.hid hck
            have CF := Lib.hid hcf
            have cx0 := HP2.out.chg.cell CX.out id
            clear hck hcf hx hf
            by_cases hxr : 0 ≤ x ∧ x ≤ 9
            · obtain ⟨x1, x2⟩ := hxr
              obtain ⟨k, rfl⟩ : ∃ k : Nat, x = (k : Int) := ⟨x.toNat, by omega⟩
              have hk10 : k < 10 := by omega
              have hki : (k : Int) < 10 := by omega
              go_wp2_with fail
              refine wp_one [4, 9, 11] [12] [] [0, 1, 2, 3, 4, 5, 6, 7, 8, 9, 10, 11, 12, 13, 14, 15, 16, 17] rfl (by kernel_rfl) (fun _ _ _ _ _ h => h) ?_; simp only [List.map_cons, List.map_nil, List.getElem?_toArray, List.getElem?_cons_zero, List.getElem?_cons_succ]
              obtain ⟨wd, hwd⟩ : ∃ W, World.drew wr = W := ⟨_, rfl⟩
              have hcd : Chg wr wd nob := by rw [← hwd]; exact (Chg.refl wr nob).drew
              rw [hwd]
              replace HB2 := Lib.hid (HB2.out.kept hcd)
              replace HP2 := Lib.hid (HP2.out.kept hcd)
              clear hcd hwd cx0
              have cx0 := HP2.out.chg.cell CX.out id
              have cf0 := HP2.out.chg.cell CF.out id
              obtain ⟨gp, cp', up, hpe, _, hcp, hby⟩ := HP2.out.at (i := k) (by rw [dgs_len]; exact hk10)
              rw [dgs_len] at hpe
              rw [dgs_at l0 10 k hk10] at hby
              cases hpe
              obtain ⟨au, cu, rfl, _⟩ := hby.form
              have HBY := Lib.hid hby
              have hsl := dg_len l0 k
              clear hby
              (repeat (first | (apply can0; (· rfl); (· rfl); (· (intro w'; first | (go_simp; with_reducible rfl) | (go_simp; done))); simp only [Act.put, List.setIfInBounds_toArray, List.set_cons_zero, List.set_cons_succ]) | (apply can1; (· rfl); (· rfl); (· (first | (go_simp; with_reducible rfl) | (go_simp; done))); simp only [Act.put, List.setIfInBounds_toArray, List.set_cons_zero, List.set_cons_succ]) | (apply canN; (· rfl); (· rfl); simp only [Act.put, List.setIfInBounds_toArray, List.set_cons_zero, List.set_cons_succ]) | (apply canN1; (· rfl); (· rfl); simp only [Act.put, List.setIfInBounds_toArray, List.set_cons_zero, List.set_cons_succ]) | (apply can0; (· rfl); (· (go_simp; done)); (· (intro w'; first | (go_simp; with_reducible rfl) | (go_simp; done))); simp only [Act.put, List.setIfInBounds_toArray, List.set_cons_zero, List.set_cons_succ]) | (apply can1; (· rfl); (· (go_simp; done)); (· (first | (go_simp; with_reducible rfl) | (go_simp; done))); simp only [Act.put, List.setIfInBounds_toArray, List.set_cons_zero, List.set_cons_succ]) | (apply canN; (· rfl); (· (go_simp; done)); simp only [Act.put, List.setIfInBounds_toArray, List.set_cons_zero, List.set_cons_succ]) | (apply canN1; (· rfl); (· (go_simp; done)); simp only [Act.put, List.setIfInBounds_toArray, List.set_cons_zero, List.set_cons_succ])))
              refine canW rfl [] rfl (fun K hK => ?_)
              go_simp
              go_at_call 43
              have htk := ptake_any wd gb gwb ub _ ⟨l0, 1, 3, 0, la + 1, wa⟩ f (sealL l0 (dg k)) (HT.out.kept HP2.out.chg id) HB2.out ⟨HKB.out, .inl rfl, by (show (0 : Int) ≤ 3 ∧ (3 : Int) < 8); decide, by (show (0 : Int) ≤ 0 ∧ (0 : Int) ≤ _); decide⟩ HBY.out (by rw [dg_len]; decide)
              have htx := take_seal ⟨l0, 1, 3, 0, la + 1, wa⟩ f (dg k) (dg_may k hk10)
              rw [if_neg (by (show ¬ ((2 : Int) = 1 ∨ (3 : Int) ≠ 3)); decide)] at htx
              have hcw : IntKind.u8.wrap (k : Int) = (k : Int) := wraps_u8 _ (by omega) (by omega)
              by_cases hlk : la < (k : Int)
              · rw [if_pos (by (show la + 1 < (k : Int) + 1); omega)] at htx
                rw [htx] at htk
                rw [hsl] at htk
                refine htk.mono ?_
                clear htk htx hsl HBY hcp
                rintro e w6 ⟨y, rfl, hfy, hpb, hcc⟩
                have HP3 : Hid (Pt w w6 (.slice (some ⟨gp, 0, none⟩) 10 cp) (dgs l0 10)) := Lib.hid (HP2.out.apart hcc (fun k hk => by
                  rcases hk with rfl | rfl
                  · exact ⟨HGB.out.1, _, _, HB2.out.blk, by decide, by decide⟩
                  · exact ⟨HGB.out.2, _, _, HB2.out.win, by decide, by decide⟩))
                have HB3 := Lib.hid hpb
                clear HP2 HB2
                have HY := Lib.hid hfy.1
                obtain ⟨g6, c6, cc6, rfl, _⟩ : ∃ (g c cc : Nat), y = .slice (some ⟨g, 0, none⟩) 1 c ∧ cc = 0 := by
                  obtain ⟨ay, cy, e, _⟩ := hfy.1.form
                  subst e
                  obtain ⟨g, e2, _⟩ := hfy.1.at (j := 0) (by (show 0 < 1); decide)
                  subst e2
                  exact ⟨g, cy, 0, rfl, rfl⟩
                have hy0 : w6.cell? ⟨g6, 0, none⟩ = some (.int .u8 (k : Int)) := by
                  obtain ⟨g, e2, h⟩ := hfy.1.at (j := 0) (by (show 0 < 1); decide)
                  cases e2
                  exact h
                clear hfy hpb hcc cx0 cf0
                have cx0 := HP3.out.chg.cell CX.out id
                have cf0 := HP3.out.chg.cell CF.out id
                (refine hK _ _ (fun u hu => by cases hu) ?_; clear hK K; try simp only [Act.put, List.setIfInBounds_toArray, List.set_cons_zero, List.set_cons_succ])
                (repeat (first | (apply can0; (· rfl); (· rfl); (· (intro w'; first | (go_simp; with_reducible rfl) | (go_simp; done))); simp only [Act.put, List.setIfInBounds_toArray, List.set_cons_zero, List.set_cons_succ]) | (apply can1; (· rfl); (· rfl); (· (first | (go_simp; with_reducible rfl) | (go_simp; done))); simp only [Act.put, List.setIfInBounds_toArray, List.set_cons_zero, List.set_cons_succ]) | (apply canN; (· rfl); (· rfl); simp only [Act.put, List.setIfInBounds_toArray, List.set_cons_zero, List.set_cons_succ]) | (apply canN1; (· rfl); (· rfl); simp only [Act.put, List.setIfInBounds_toArray, List.set_cons_zero, List.set_cons_succ]) | (apply can0; (· rfl); (· (go_simp; done)); (· (intro w'; first | (go_simp; with_reducible rfl) | (go_simp; done))); simp only [Act.put, List.setIfInBounds_toArray, List.set_cons_zero, List.set_cons_succ]) | (apply can1; (· rfl); (· (go_simp; done)); (· (first | (go_simp; with_reducible rfl) | (go_simp; done))); simp only [Act.put, List.setIfInBounds_toArray, List.set_cons_zero, List.set_cons_succ]) | (apply canN; (· rfl); (· (go_simp; done)); simp only [Act.put, List.setIfInBounds_toArray, List.set_cons_zero, List.set_cons_succ]) | (apply canN1; (· rfl); (· (go_simp; done)); simp only [Act.put, List.setIfInBounds_toArray, List.set_cons_zero, List.set_cons_succ])))
                refine canE ?_
                go_wp2_with fail
                refine wp_one [5, 19, 23] [] [] [0, 1, 2, 3, 4, 5, 6, 7, 8, 9, 10, 11, 12, 13, 14, 15, 16, 17, 18, 19, 20, 21, 22, 23, 24, 25, 26, 27, 28] rfl (by kernel_rfl) (fun _ _ _ _ _ h => h) ?_; simp only [List.map_cons, List.map_nil, List.getElem?_toArray, List.getElem?_cons_zero, List.getElem?_cons_succ]
                (repeat (first | (apply can0; (· rfl); (· rfl); (· (intro w'; first | (go_simp; with_reducible rfl) | (go_simp; done))); simp only [Act.put, List.setIfInBounds_toArray, List.set_cons_zero, List.set_cons_succ]) | (apply can1; (· rfl); (· rfl); (· (first | (go_simp; with_reducible rfl) | (go_simp; done))); simp only [Act.put, List.setIfInBounds_toArray, List.set_cons_zero, List.set_cons_succ]) | (apply canN; (· rfl); (· rfl); simp only [Act.put, List.setIfInBounds_toArray, List.set_cons_zero, List.set_cons_succ]) | (apply canN1; (· rfl); (· rfl); simp only [Act.put, List.setIfInBounds_toArray, List.set_cons_zero, List.set_cons_succ]) | (apply can0; (· rfl); (· (go_simp; done)); (· (intro w'; first | (go_simp; with_reducible rfl) | (go_simp; done))); simp only [Act.put, List.setIfInBounds_toArray, List.set_cons_zero, List.set_cons_succ]) | (apply can1; (· rfl); (· (go_simp; done)); (· (first | (go_simp; with_reducible rfl) | (go_simp; done))); simp only [Act.put, List.setIfInBounds_toArray, List.set_cons_zero, List.set_cons_succ]) | (apply canN; (· rfl); (· (go_simp; done)); simp only [Act.put, List.setIfInBounds_toArray, List.set_cons_zero, List.set_cons_succ]) | (apply canN1; (· rfl); (· (go_simp; done)); simp only [Act.put, List.setIfInBounds_toArray, List.set_cons_zero, List.set_cons_succ])))
                refine canE ?_
                have hmx : mxI la (k : Int) = (k : Int) := mxI_le (by omega)
                have hk1 : IntKind.i64.wrap ((k : Int) + 1) = (k : Int) + 1 := by simp only [IntKind.wrap, IntKind.bits, IntKind.signed]; simp; omega
                have hk1u : IntKind.u64.wrap ((k : Int) + 1) = (k : Int) + 1 := wrp_u64v _ (by omega) (by omega)
                by_cases hf0 : 0 ≤ f
                · replace HB3 : Hid (PeerR w6 gb gwb ub ⟨l0, 1, 3, 0, (k : Int) + 1, f⟩) := Lib.hid (by have h := HB3.out; rw [if_pos hf0] at h; exact h)
                  obtain ⟨w7, hw7⟩ : ∃ W, World.drew w6 = W := ⟨_, rfl⟩
                  have hcd : Chg w6 w7 nob := by rw [← hw7]; exact (Chg.refl w6 nob).drew
                  rw [hw7]
                  replace HB3 := Lib.hid (HB3.out.kept hcd)
                  replace HP3 := Lib.hid (HP3.out.kept hcd)
                  clear hw7 cx0 cf0 hcd
                  have cx0 := HP3.out.chg.cell CX.out id
                  have cf0 := HP3.out.chg.cell CF.out id
                  go_wp2_with fail
                  try rw [hmx]
                  go_at_call 45
                  refine (paddr_any w7 gb gwb ub _ HB3.out).mono ?_
                  rintro e yy ⟨rfl, rfl⟩
                  go_wp2_with fail
                  go_at_call 47
                  refine (pin_any w7 gb gwb ub _ HB3.out).mono ?_
                  rintro e yy ⟨rfl, rfl⟩
                  go_wp2
                  go_roundw
                  case rel => exact ⟨i + 1, (k : Int), f, by omega, rfl, rfl, by go_num, by omega, by omega, HB3, HP3⟩
                  case measure => simp [intOf]; omega
                · replace HB3 : Hid (PeerR w6 gb gwb ub ⟨l0, 1, 3, 0, (k : Int) + 1, wa⟩) := Lib.hid (by have h := HB3.out; rw [if_neg hf0] at h; exact h)
                  have hf0' : f < 0 := by omega
                  obtain ⟨w7, hw7⟩ : ∃ W, World.drew w6 = W := ⟨_, rfl⟩
                  have hcd : Chg w6 w7 nob := by rw [← hw7]; exact (Chg.refl w6 nob).drew
                  rw [hw7]
                  replace HB3 := Lib.hid (HB3.out.kept hcd)
                  replace HP3 := Lib.hid (HP3.out.kept hcd)
                  clear hw7 cx0 cf0 hcd
                  have cx0 := HP3.out.chg.cell CX.out id
                  have cf0 := HP3.out.chg.cell CF.out id
                  go_wp2_with fail
                  try rw [hmx]
                  go_at_call 45
                  refine (paddr_any w7 gb gwb ub _ HB3.out).mono ?_
                  rintro e yy ⟨rfl, rfl⟩
                  go_wp2_with fail
                  go_at_call 47
                  refine (pin_any w7 gb gwb ub _ HB3.out).mono ?_
                  rintro e yy ⟨rfl, rfl⟩
                  go_wp2
                  go_roundw
                  case rel => exact ⟨i + 1, (k : Int), wa, by omega, rfl, rfl, by go_num, by omega, by omega, HB3, HP3⟩
                  case measure => simp [intOf]; omega
              · rw [if_neg (by (show ¬ la + 1 < (k : Int) + 1); omega)] at htx
                rw [htx] at htk
                rw [hsl] at htk
                refine htk.mono ?_
                clear htk htx hsl HBY hcp
                rintro e w6 ⟨y, rfl, hfy, hpb, hcc⟩
                have HP3 : Hid (Pt w w6 (.slice (some ⟨gp, 0, none⟩) 10 cp) (dgs l0 10)) := Lib.hid (HP2.out.apart hcc (fun k hk => by
                  rcases hk with rfl | rfl
                  · exact ⟨HGB.out.1, _, _, HB2.out.blk, by decide, by decide⟩
                  · exact ⟨HGB.out.2, _, _, HB2.out.win, by decide, by decide⟩))
                have HB3 := Lib.hid hpb
                clear HP2 HB2
                obtain ⟨ay, cy, rfl, _⟩ := hfy.1.form
                clear hfy hpb hcc cx0 cf0
                have cx0 := HP3.out.chg.cell CX.out id
                have cf0 := HP3.out.chg.cell CF.out id
                (refine hK _ _ (fun u hu => by cases hu) ?_; clear hK K; try simp only [Act.put, List.setIfInBounds_toArray, List.set_cons_zero, List.set_cons_succ])
                (repeat (first | (apply can0; (· rfl); (· rfl); (· (intro w'; first | (go_simp; with_reducible rfl) | (go_simp; done))); simp only [Act.put, List.setIfInBounds_toArray, List.set_cons_zero, List.set_cons_succ]) | (apply can1; (· rfl); (· rfl); (· (first | (go_simp; with_reducible rfl) | (go_simp; done))); simp only [Act.put, List.setIfInBounds_toArray, List.set_cons_zero, List.set_cons_succ]) | (apply canN; (· rfl); (· rfl); simp only [Act.put, List.setIfInBounds_toArray, List.set_cons_zero, List.set_cons_succ]) | (apply canN1; (· rfl); (· rfl); simp only [Act.put, List.setIfInBounds_toArray, List.set_cons_zero, List.set_cons_succ]) | (apply can0; (· rfl); (· (go_simp; done)); (· (intro w'; first | (go_simp; with_reducible rfl) | (go_simp; done))); simp only [Act.put, List.setIfInBounds_toArray, List.set_cons_zero, List.set_cons_succ]) | (apply can1; (· rfl); (· (go_simp; done)); (· (first | (go_simp; with_reducible rfl) | (go_simp; done))); simp only [Act.put, List.setIfInBounds_toArray, List.set_cons_zero, List.set_cons_succ]) | (apply canN; (· rfl); (· (go_simp; done)); simp only [Act.put, List.setIfInBounds_toArray, List.set_cons_zero, List.set_cons_succ]) | (apply canN1; (· rfl); (· (go_simp; done)); simp only [Act.put, List.setIfInBounds_toArray, List.set_cons_zero, List.set_cons_succ])))
                refine canE ?_
                go_wp2_with fail
                refine wp_one [5, 19, 23] [] [] [0, 1, 2, 3, 4, 5, 6, 7, 8, 9, 10, 11, 12, 13, 14, 15, 16, 17, 18, 19, 20, 21, 22, 23, 24, 25, 26, 27, 28] rfl (by kernel_rfl) (fun _ _ _ _ _ h => h) ?_; simp only [List.map_cons, List.map_nil, List.getElem?_toArray, List.getElem?_cons_zero, List.getElem?_cons_succ]
                (repeat (first | (apply can0; (· rfl); (· rfl); (· (intro w'; first | (go_simp; with_reducible rfl) | (go_simp; done))); simp only [Act.put, List.setIfInBounds_toArray, List.set_cons_zero, List.set_cons_succ]) | (apply can1; (· rfl); (· rfl); (· (first | (go_simp; with_reducible rfl) | (go_simp; done))); simp only [Act.put, List.setIfInBounds_toArray, List.set_cons_zero, List.set_cons_succ]) | (apply canN; (· rfl); (· rfl); simp only [Act.put, List.setIfInBounds_toArray, List.set_cons_zero, List.set_cons_succ]) | (apply canN1; (· rfl); (· rfl); simp only [Act.put, List.setIfInBounds_toArray, List.set_cons_zero, List.set_cons_succ]) | (apply can0; (· rfl); (· (go_simp; done)); (· (intro w'; first | (go_simp; with_reducible rfl) | (go_simp; done))); simp only [Act.put, List.setIfInBounds_toArray, List.set_cons_zero, List.set_cons_succ]) | (apply can1; (· rfl); (· (go_simp; done)); (· (first | (go_simp; with_reducible rfl) | (go_simp; done))); simp only [Act.put, List.setIfInBounds_toArray, List.set_cons_zero, List.set_cons_succ]) | (apply canN; (· rfl); (· (go_simp; done)); simp only [Act.put, List.setIfInBounds_toArray, List.set_cons_zero, List.set_cons_succ]) | (apply canN1; (· rfl); (· (go_simp; done)); simp only [Act.put, List.setIfInBounds_toArray, List.set_cons_zero, List.set_cons_succ])))
                refine canE ?_
                have hmx : mxI la (k : Int) = la := mxI_ge (by omega)
                have hk1 : IntKind.i64.wrap (la + 1) = la + 1 := by simp only [IntKind.wrap, IntKind.bits, IntKind.signed]; simp; omega
                have hk1u : IntKind.u64.wrap (la + 1) = la + 1 := wrp_u64v _ (by omega) (by omega)
                obtain ⟨w7, hw7⟩ : ∃ W, World.drew w6 = W := ⟨_, rfl⟩
                have hcd : Chg w6 w7 nob := by rw [← hw7]; exact (Chg.refl w6 nob).drew
                rw [hw7]
                replace HB3 := Lib.hid (HB3.out.kept hcd)
                replace HP3 := Lib.hid (HP3.out.kept hcd)
                clear hw7 cx0 cf0 hcd
                have cx0 := HP3.out.chg.cell CX.out id
                have cf0 := HP3.out.chg.cell CF.out id
                go_wp2_with fail
                try rw [hmx]
                go_at_call 45
                refine (paddr_any w7 gb gwb ub _ HB3.out).mono ?_
                rintro e yy ⟨rfl, rfl⟩
                go_wp2_with fail
                go_at_call 47
                refine (pin_any w7 gb gwb ub _ HB3.out).mono ?_
                rintro e yy ⟨rfl, rfl⟩
                go_wp2
                go_roundw
                case rel => exact ⟨i + 1, la, wa, by omega, rfl, rfl, by go_num, by omega, by omega, HB3, HP3⟩
                case measure => simp [intOf]; omega
            · have hxo : x < 0 ∨ 9 < x := by omega
              rcases hxo with hx0 | hx9
              · go_wp2
                go_roundw
                case rel => exact ⟨i + 1, la, wa, by omega, rfl, rfl, by go_num, ha1, ha2, HB2, HP2⟩
                case measure => simp [intOf]; omega
              · have hx0 : 0 ≤ x := by omega
                go_wp2
                go_roundw
                case rel => exact ⟨i + 1, la, wa, by omega, rfl, rfl, by go_num, ha1, ha2, HB2, HP2⟩
                case measure => simp [intOf]; omega
          · obtain rfl : i = l1.length := by omega
            obtain ⟨gp, cp', up, hpe, _, hcp, hby⟩ := HP2.out.at (i := 0) (by rw [dgs_len]; decide)
            rw [dgs_len] at hpe
            rw [dgs_at l0 10 0 (by decide)] at hby
            cases hpe
            obtain ⟨au, cu, rfl, hcu⟩ := hby.form
            have hsl := dg_len l0 0
            have htk20 : By wr (.slice (addS au cu 0) 20 cu) ((sealL l0 (dg 0)).take 20) := hby.take (by omega)
            have H20 := Lib.hid htk20
            have h20 : (20 : Int) ≤ (cu : Int) := by omega
            rw [hsl] at hcp hcu
            clear hby htk20
            go_wp2_with fail
            go_at_call 43
            have htk := ptake_any wr gb gwb ub _ ⟨l0, 1, 3, 0, la + 1, wa⟩ 5 ((sealL l0 (dg 0)).take 20) (HT.out.kept HP2.out.chg id) HB2.out ⟨HKB.out, .inl rfl, by (show (0 : Int) ≤ 3 ∧ (3 : Int) < 8); decide, by (show (0 : Int) ≤ 0 ∧ (0 : Int) ≤ _); decide⟩ H20.out (by simp; omega)
            rw [short_take _ _ _ (by simp; omega)] at htk
            refine htk.mono ?_
            clear htk hsl hcp
            rintro e w6 ⟨y, rfl, hfy, hpb, hcc⟩
            have HP3 : Hid (Pt w w6 (.slice (some ⟨gp, 0, none⟩) 10 cp) (dgs l0 10)) := Lib.hid (HP2.out.apart hcc (fun k hk => by
              rcases hk with rfl | rfl
              · exact ⟨HGB.out.1, _, _, HB2.out.blk, by decide, by decide⟩
              · exact ⟨HGB.out.2, _, _, HB2.out.win, by decide, by decide⟩))
            have HB3 := Lib.hid hpb
            clear HP2 HB2
            obtain ⟨ay, cy, rfl, _⟩ := hfy.1.form
            have HC6 := Lib.hid HP3.out.chg
            clear hfy hpb hcc HP3
            go_wp2_with fail
            go_at_call 37
            refine (first27_any w6 (HT.out.kept HC6.out id)).mono ?_
            rintro e w7 ⟨rfl, hcc⟩
            replace HB3 := Lib.hid (HB3.out.kept hcc)
            replace HC6 : Hid (Chg w w7 nob) := Lib.hid (HC6.out.trans hcc (fun _ _ h => h))
            clear hcc
            go_wp2_with fail
            go_at_call 45
            refine (paddr_any w7 gb gwb ub _ HB3.out).mono ?_
            rintro e x ⟨rfl, rfl⟩
            go_wp2
            go_ret
            exact ⟨rfl, HC6.out⟩
  · have HIN := Lib.hid hin
    clear hin
    go_wp2_with fail
    all_goals first
      | (exfalso; exact HIN.out ⟨by omega, by omega, by omega⟩)
      | (go_at_call 37
         refine (first27_any w4 (HT.out.kept HC.out id)).mono ?_
         rintro e x ⟨rfl, hx⟩
         have HX := Lib.hid hx
         clear hx
         go_wp2
         go_ret
         exact ⟨rfl, HC.out.trans HX.out (fun _ _ h => h)⟩)
end Go.Proofs.YtajcefdbljbmdaaDoor
