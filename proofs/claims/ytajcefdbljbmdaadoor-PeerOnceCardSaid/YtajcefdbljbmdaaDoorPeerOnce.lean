/-
  PeerOnce: each is taken at most once, by rising number, with its address.
-/
import Derived.Test.YtajcefdbljbmdaaDoorPeer5
import Derived.Test.YtajcefdbljbmdaaDoorPsA
namespace Go.Proofs.YtajcefdbljbmdaaDoor
open Go.RowKit
set_option linter.unusedVariables false
set_option linter.unusedSimpArgs false

/-- The i-th datagram. -/
def on (v : Int) (P : List (List Int)) (i : Nat) : Pk := ⟨1, v, (i : Int) + 6, P.getD i []⟩
def ons (K : List Int) (v : Int) (P : List (List Int)) (n : Nat) : List (List Int) := (List.range n).map fun i => sealL K (on v P i)
theorem ons_succ (K : List Int) (v : Int) (P : List (List Int)) (n : Nat) : ons K v P (n + 1) = ons K v P n ++ [sealL K (on v P n)] := by simp [ons, List.range_succ]
theorem ons_len (K : List Int) (v : Int) (P : List (List Int)) (n : Nat) : (ons K v P n).length = n := by simp [ons]
theorem ons_at (K : List Int) (v : Int) (P : List (List Int)) (n i : Nat) (h : i < n) : (ons K v P n).getD i [] = sealL K (on v P i) := by simp [ons, List.getD, h]
theorem on_may (v : Int) (P : List (List Int)) (i : Nat) (h : i < 100) (hv : 0 ≤ v ∧ v < 8) (hb : (P.getD i []).length ≤ 1200) : (on v P i).May := ⟨.inl rfl, hv.1, hv.2, by (show (1 : Int) ≤ (i : Int) + 6); omega, by (show (i : Int) + 6 ≤ _); omega, hb⟩
theorem forged_len {s : Pe} {fr : Int} {b : List Int} (h : (takeX s fr b).2.2 = 0) : 26 ≤ b.length ∧ tagL s.key (b.take (b.length - 16)) = b.drop (b.length - 16) ∧ (takeX s fr b).2.1.length + 16 ≤ b.length := by
  have hop : (openL s.key b).2 = 0 := by
    by_cases hn : (openL s.key b).2 = 0
    · exact hn
    · rw [takeX, if_pos hn] at h
      exact absurd h hn
  have hb : 26 ≤ b.length ∧ tagL s.key (b.take (b.length - 16)) = b.drop (b.length - 16) ∧ (openL s.key b).1.b.length + 16 ≤ b.length := by
    unfold openL at hop ⊢
    split at hop
    · simp at hop
    · rename_i h26
      rw [if_neg h26]
      split at hop
      · rename_i ht
        refine ⟨by omega, ht, ?_⟩
        rw [if_pos ht]
        split
        · simp [openP]; omega
        · (show 0 + 16 ≤ _); omega
      · simp at hop
  refine ⟨hb.1, hb.2.1, ?_⟩
  have h2 := hb.2.2
  unfold takeX
  rw [if_neg (by simp [hop])]
  split
  · (show 0 + 16 ≤ _); omega
  · split
    · exact h2
    · (show 0 + 16 ≤ _); omega
/-- What is not taken changes nothing. -/
theorem take_same {s : Pe} {fr : Int} {b : List Int} (h : (takeX s fr b).2.2 ≠ 0) : (takeX s fr b).1 = s := by
  unfold takeX at h ⊢
  split
  · rfl
  · rename_i h0
    rw [if_neg h0] at h
    split
    · rfl
    · rename_i h1
      rw [if_neg h1] at h
      split
      · rename_i h2
        rw [if_pos h2] at h
        simp at h
      · rfl
def inOnce (a b c : Nat) (n : Int) : Prop := a ≤ 1000 ∧ b ≤ 100 ∧ c ≤ 300 ∧ n ≤ 20000
attribute [local go_sem ↓] run_min_two run_max_two run_cut_h run_cut_l
set_option maxRecDepth 100000 in
set_option maxHeartbeats 8000000 in
theorem PeerOnce_walk (a0 : Option Addr) (len0 cap0 : Nat) (a1 : Int) (a2 : Option Addr) (c2 : Nat) (P2 : List (List Int)) (a3 : Option Addr) (len3 cap3 : Nat) (a4 : Option Addr) (len4 cap4 : Nat) (w : World) (l0 l3 l4 : List Int)
    (hr0 : Rd w 1 (.slice a0 len0 cap0) len0 (l0.map (Value.int .u8))) (hl0 : l0.length = len0) (y0 : len0 * 1 ≤ 140737488351232) (w0 : ∀ x ∈ l0, 0 ≤ x ∧ x ≤ 255) (nk0 : NilOk (.slice a0 len0 cap0))
    (w1 : -9223372036854775808 ≤ a1 ∧ a1 ≤ 9223372036854775807) (h2 : PsA w a2 c2 P2)
    (hr3 : Rd w 1 (.slice a3 len3 cap3) len3 (l3.map (Value.int .i64))) (hl3 : l3.length = len3) (y3 : len3 * 8 ≤ 140737488351232) (w3 : ∀ x ∈ l3, -9223372036854775808 ≤ x ∧ x ≤ 9223372036854775807) (nk3 : NilOk (.slice a3 len3 cap3))
    (hr4 : Rd w 1 (.slice a4 len4 cap4) len4 (l4.map (Value.int .u8))) (hl4 : l4.length = len4) (y4 : len4 * 1 ≤ 140737488351232) (w4 : ∀ x ∈ l4, 0 ≤ x ∧ x ≤ 255) (nk4 : NilOk (.slice a4 len4 cap4)) (ht : Tab w) :
    Calls Tryd.prog 11 #[.slice a0 len0 cap0, .int .i64 a1, .slice a2 P2.length c2, .slice a3 len3 cap3, .slice a4 len4 cap4] w fun e w' => e = .returned (.bool true) ∧ Chg w w' nob := by
  subst hl0 hl3 hl4
  obtain ⟨P, hPP⟩ : ∃ P, P2 = P := ⟨_, rfl⟩
  subst hPP
  have K0 : Hid (By w (.slice a0 l0.length cap0) l0) := Lib.hid ⟨hr0, nk0, w0⟩
  have K4 : Hid (By w (.slice a4 l4.length cap4) l4) := Lib.hid ⟨hr4, nk4, w4⟩
  have K2 := Lib.hid h2
  have HR3 := Lib.hid hr3
  have HW3 := Lib.hid w3
  have HT := Lib.hid ht
  obtain ⟨v1, v1'⟩ := w1
  have i0 : (0 : Int) ≤ (l0.length : Int) := by omega
  have i2 : (0 : Int) ≤ (P2.length : Int) := by omega
  have i3 : (0 : Int) ≤ (l3.length : Int) := by omega
  have i4 : (0 : Int) ≤ (l4.length : Int) := by omega
  have y4i : (l4.length : Int) ≤ 140737488351232 := by omega
  clear hr0 hr3 hr4 nk0 nk3 nk4 w0 w3 w4 h2 ht
  have HV0 : (0 ≤ a1 ∧ a1 < 8) ∨ ¬ (0 ≤ a1 ∧ a1 < 8) := Classical.em _
  by_cases hP : P2.length ≤ 100
  · rcases HV0 with ⟨hv1, hv2⟩ | hv
    · have HV1 := Lib.hid hv1
      go_enter Tryd.func11, Tryd.ntmps11
      go_wp2_with fail
      go_at_call 37
      refine (first27_any w HT.out).mono ?_
      rintro e w1 ⟨rfl, hck⟩
      have HC := Lib.hid hck
      clear hck
      go_wp2_with fail
      go_loopw [11, 12] (fun nv iv wr => ∃ (i : Nat) (n : Int), i ≤ P2.length ∧ i ≤ 100 ∧ nv = .int .i64 n ∧ iv = .int .i64 i ∧ (l4.length : Int) ≤ n ∧ n ≤ (l4.length : Int) + 20001 * (i : Int) ∧ w1 = wr) (fun _ iv _ => P2.length - (intOf iv).toNat)
      case atStart => exact ⟨0, (l4.length : Int), by omega, by omega, rfl, rfl, by omega, by omega, by first | rfl | trivial⟩
      case round =>
        obtain ⟨i, n, hi, hi1, rfl, rfl, hn1, hn2, rfl⟩ := hrel
        by_cases hil : i < P2.length ∧ i < 100
        · obtain ⟨hil, hi100⟩ := hil
          have hii : (i : Int) < (P2.length : Int) := by omega
          have hii1 : (i : Int) < 100 := by omega
          have hi0 : (0 : Int) ≤ (i : Int) := by omega
          obtain ⟨g, o, u, rfl, hc, hb⟩ := K2.out.at hil
          obtain ⟨au, cu, rfl, _⟩ := hb.form
          have hc1 := HC.out.cell hc id
          obtain ⟨m, hm⟩ : ∃ m, (P2.getD i []).length = m := ⟨_, rfl⟩
          rw [hm] at hc hc1
          obtain ⟨z, hz, hz1, hz2⟩ : ∃ z : Int, mnI (m : Int) 20001 = z ∧ 0 ≤ z ∧ z ≤ 20001 := ⟨_, rfl, by unfold mnI; split <;> omega, by unfold mnI; split <;> omega⟩
          have HZ := Lib.hid hz
          have hwn : IntKind.i64.wrap (n + z) = n + z := by simp only [IntKind.wrap, IntKind.bits, IntKind.signed]; simp; omega
          clear hm hb hz hc
          go_wp2_with (rw [HZ.out])
          go_roundw
          case rel => exact ⟨i + 1, n + z, by omega, by omega, rfl, by go_num, by omega, by omega, by first | rfl | trivial⟩
          case measure => simp [intOf]; omega
        · have hend : i = P2.length := by omega
          subst hend
          have hnl : ¬ P2.length < P2.length := by omega
          clear hil
          go_wp2_with fail
          go_at_call 39
          refine (pnew_ok w1 l0 _ 1 a1 5 (K0.out.kept HC.out) (by omega) ⟨.inl rfl, hv1, hv2, by decide⟩).mono ?_
          rintro e w2 ⟨ga, gwa, ua, rfl, hpa, hca, hga, hgwa, hua⟩
          have HA := Lib.hid hpa
          have HGA : Hid (w.heap.size ≤ ga ∧ w.heap.size ≤ gwa ∧ ga < w2.heap.size ∧ gwa < w2.heap.size) := Lib.hid ⟨Nat.le_trans HC.out.size hga, Nat.le_trans HC.out.size hgwa, hpa.blk.lt, hpa.win.lt⟩
          replace HC : Hid (Chg w w2 nob) := Lib.hid (HC.out.trans hca (fun _ _ h => h))
          clear hpa hca hga hgwa hua
          go_wp2_with fail
          go_at_call 39
          refine (pnew_ok w2 l0 _ 2 a1 0 (K0.out.kept HC.out) (by omega) ⟨.inr rfl, hv1, hv2, by decide⟩).mono ?_
          rintro e w4 ⟨gb, gwb, ub, rfl, hpb, hck, hgb, hgwb, hub⟩
          have HB := Lib.hid hpb
          have HNE : Hid (ga ≠ gb ∧ gwa ≠ gwb) := Lib.hid (by have h1 := HGA.out; constructor <;> omega)
          have HGB : Hid (w.heap.size ≤ gb ∧ w.heap.size ≤ gwb) := Lib.hid (by have h1 := HC.out.size; constructor <;> omega)
          replace HC : Hid (Chg w w4 nob) := Lib.hid (HC.out.trans hck (fun _ _ h => h))
          replace HA := Lib.hid (HA.out.kept hck)
          clear hpb hgb hgwb hub hck
          by_cases hin : inOnce l0.length P2.length l3.length n
          · obtain ⟨h1, h2', h3, h4⟩ := hin
            have j0 : (l0.length : Int) ≤ 1000 := by omega
            have j2 : (P2.length : Int) ≤ 100 := by omega
            have j3 : (l3.length : Int) ≤ 300 := by omega
            have hl4 : l4.length ≤ 20000 := by omega
            have HKB : Hid ((∀ x ∈ l0, 0 ≤ x ∧ x ≤ 255) ∧ l0.length ≤ 1000000) := Lib.hid ⟨K0.out.byte, by omega⟩
            clear hn1 hn2 h1 h2'
            go_wp2_with fail
            go_loopw [17, 18, 19, 20] (fun pv iv _ _ wr => ∃ i : Nat, i ≤ P2.length ∧ iv = .int .i64 i ∧ Hid (Pt w wr pv (ons l0 a1 P2 i)) ∧ Hid (PeerR wr ga gwa ua ⟨l0, 1, a1, (i : Int) + 5, 0, -1⟩) ∧ Hid (PeerR wr gb gwb ub ⟨l0, 2, a1, 0, 0, -1⟩) ∧ Hid (∀ j, j < i → (P2.getD j []).length ≤ 1200) ∧ ∃ ap cp, pv = .slice ap i cp) (fun _ iv _ _ _ => P2.length - (intOf iv).toNat)
            case atStart => exact ⟨0, by omega, rfl, Lib.hid ((Pt.nil w).kept HC.out), HA, HB, Lib.hid (fun j hj => absurd hj (Nat.not_lt_zero _)), none, 0, rfl⟩
            case round =>
              obtain ⟨i, hi, rfl, HP, HA1, HB1, HL, ap, cp, rfl⟩ := hrel
              clear HA HB HC hnl
              by_cases hil : i < P2.length
              · have hii : (i : Int) < (P2.length : Int) := by omega
                have hi0 : (0 : Int) ≤ (i : Int) := by omega
                obtain ⟨g, o, u, rfl, hc, hb⟩ := K2.out.at hil
                have hc1 := HP.out.chg.cell hc id
                have HBU := Lib.hid (hb.kept HP.out.chg)
                obtain ⟨au, cu, rfl, _⟩ := hb.form
                obtain ⟨bd, hbd⟩ : ∃ b, P2.getD i [] = b := ⟨_, rfl⟩
                rw [hbd] at hc hc1 HBU
                have HBD := Lib.hid hbd
                have hsd := psend_any wr ga gwa ua _ ⟨l0, 1, a1, (i : Int) + 5, 0, -1⟩ bd (HT.out.kept HP.out.chg id) HA1.out ⟨HKB.out, .inl rfl, ⟨hv1, hv2⟩, by (show 0 ≤ (i : Int) + 5 ∧ (i : Int) + 5 ≤ _); omega⟩ HBU.out
                have CU := Lib.hid hc
                have hbl0 : (0 : Int) ≤ (bd.length : Int) := by omega
                clear hb hc hbd
                by_cases hbl : bd.length ≤ 1200
                · have he : sendE ⟨l0, 1, a1, (i : Int) + 5, 0, -1⟩ bd = 0 := by unfold sendE; rw [if_neg (by (show ¬ 4611686018427387904 ≤ (i : Int) + 5); omega), if_neg (by omega)]
                  have h56 : (i : Int) + 5 + 1 = (i : Int) + 6 := by omega
                  have hL : sendL ⟨l0, 1, a1, (i : Int) + 5, 0, -1⟩ bd = sealL l0 (on a1 P2 i) := by
                    unfold sendL
                    rw [if_pos he]
                    show sealL l0 ⟨1, a1, (i : Int) + 5 + 1, bd⟩ = sealL l0 ⟨1, a1, (i : Int) + 6, P2.getD i []⟩
                    rw [h56, HBD.out]
                  have hS : sendS ⟨l0, 1, a1, (i : Int) + 5, 0, -1⟩ bd = ⟨l0, 1, a1, ((i + 1 : Nat) : Int) + 5, 0, -1⟩ := by
                    unfold sendS
                    rw [if_pos he]
                    show (⟨l0, 1, a1, (i : Int) + 5 + 1, 0, -1⟩ : Pe) = _
                    rw [show (i : Int) + 5 + 1 = ((i + 1 : Nat) : Int) + 5 by omega]
                  rw [he, hL, hS] at hsd
                  have HSD := Lib.hid hsd
                  have hbi : (bd.length : Int) ≤ 1200 := by omega
                  have HLL : Hid (∀ j, j < i + 1 → (P2.getD j []).length ≤ 1200) := Lib.hid (fun j hj => by
                    by_cases h : j = i
                    · subst h; rw [HBD.out]; exact hbl
                    · exact HL.out j (by omega))
                  have HLB : Hid (∀ x ∈ sealL l0 (on a1 P2 i), 0 ≤ x ∧ x ≤ 255) := Lib.hid (sealL_byte _ _ (by (show ∀ x ∈ P2.getD i [], 0 ≤ x ∧ x ≤ 255); rw [HBD.out]; exact HBU.out.byte))
                  clear hsd he hL hS h56 HL HBD
                  go_wp2_with fail
                  go_at_call 41
                  refine HSD.out.mono ?_
                  rintro e w6 ⟨x, rfl, hfx, hpa, hck⟩
                  have hck2 : Chg wr w6 (two ga gwa) := hck.one
                  replace HB1 := Lib.hid (HA1.out.other HB1.out hck2 HNE.out.1 HNE.out.2)
                  replace HP : Hid (Pt w w6 (.slice ap i cp) (ons l0 a1 P2 i)) := Lib.hid (HP.out.apart hck2 (fun k hk => by
                    rcases hk with rfl | rfl
                    · exact ⟨HGA.out.1, _, _, HA1.out.blk, by decide, by decide⟩
                    · exact ⟨HGA.out.2.1, _, _, HA1.out.win, by decide, by decide⟩))
                  replace HA1 := Lib.hid hpa
                  have hc6 := HP.out.chg.cell CU.out id
                  obtain ⟨ax, cx, rfl, _⟩ := hfx.1.form
                  have HX := Lib.hid hfx.1
                  obtain ⟨m, hm⟩ : ∃ m, (sealL l0 (on a1 P2 i)).length = m := ⟨_, rfl⟩
                  rw [hm] at HX ⊢
                  have HM := Lib.hid hm
                  clear hfx hpa hck hck2 HSD hc1 hm
                  go_wp2_with (at_builtin; refine wpList_pt rfl (.tmp 128) (.tmp 130) rfl HP.out (.slice ax m cx) (sealL l0 (on a1 P2 i)) (by rw [HM.out]; exact HX.out) HLB.out (by rw [ons_len]; omega) rfl rfl ?_)
                  intro pv2 w7 hp2 hc2 _ hrow
                  have HP2 : Hid (Pt w w7 pv2 (ons l0 a1 P2 (i + 1))) := Lib.hid (by rw [ons_succ]; exact hp2)
                  have HA2 := Lib.hid (HA1.out.rows hc2 hrow)
                  have HB2 := Lib.hid (HB1.out.rows hc2 hrow)
                  obtain ⟨ap2, cp2, hpv, _⟩ := HP2.out.form
                  rw [ons_len] at hpv
                  subst hpv
                  clear hp2 hc2 hrow HP HA1 HB1 HX hc6
                  go_wp2
                  go_roundw
                  case rel => exact ⟨i + 1, by omega, by go_num, HP2, HA2, HB2, HLL, _, _, rfl⟩
                  case measure => simp [intOf]; omega
                · have he : sendE ⟨l0, 1, a1, (i : Int) + 5, 0, -1⟩ bd = 4 := by unfold sendE; rw [if_neg (by (show ¬ 4611686018427387904 ≤ (i : Int) + 5); omega), if_pos (by omega)]
                  rw [he] at hsd
                  have HSD := Lib.hid hsd
                  have hbi : (1200 : Int) < (bd.length : Int) := by omega
                  clear hsd he HL HBD
                  go_wp2_with fail
                  go_at_call 41
                  refine HSD.out.mono ?_
                  rintro e w6 ⟨x, rfl, hfx, hpa, hck⟩
                  have HC : Hid (Chg w w6 nob) := Lib.hid (HP.out.chg.news hck.one HGA.out.1 HGA.out.2.1)
                  have hc6 := HC.out.cell CU.out id
                  obtain ⟨ax, cx, rfl, _⟩ := hfx.1.form
                  clear hfx hpa hck HSD hc1
                  go_wp2_with fail
                  go_at_call 37
                  refine (first27_any w6 (HT.out.kept HC.out id)).mono ?_
                  rintro e x ⟨rfl, hx⟩
                  have HXX := Lib.hid hx
                  clear hx
                  go_wp2
                  go_ret
                  exact ⟨rfl, HC.out.trans HXX.out (fun _ _ h => h)⟩
              · obtain rfl : i = P2.length := by omega
                have HA : Hid (PeerR wr ga gwa ua ⟨l0, 1, a1, (P2.length : Int) + 5, 0, -1⟩) := HA1
                rename World => wy
                go_wp2_with fail
                go_loopw [21, 22, 23, 24, 25, 26, 27, 28] (fun lv iv _ _ _ _ _ _ wr => ∃ (i : Nat) (la : Int), i ≤ l3.length ∧ lv = .int .i64 la ∧ iv = .int .i64 i ∧ -1 ≤ la ∧ la < (P2.length : Int) ∧ Hid (PeerR wr gb gwb ub ⟨l0, 2, a1, 0, if la < 0 then 0 else la + 6, la⟩) ∧ Hid (PeerR wr ga gwa ua ⟨l0, 1, a1, (P2.length : Int) + 5, 0, -1⟩) ∧ Hid (Pt w wr (.slice ap P2.length cp) (ons l0 a1 P2 P2.length))) (fun _ iv _ _ _ _ _ _ _ => l3.length - (intOf iv).toNat)
                case atStart => exact ⟨0, -1, by omega, rfl, rfl, by omega, by omega, HB1, HA, HP⟩
                case round =>
                  obtain ⟨i, la, hi, rfl, rfl, la1, la2, HB, HA2, HPt⟩ := hrel
                  clear HB1 HA HA1 HP
                  have HA := HA2
                  have HP := HPt
                  clear HA2 HPt
                  obtain ⟨J, hJ, hJ1⟩ : ∃ J, (if la < 0 then (0 : Int) else la + 6) = J ∧ ((J = 0 ∧ la = -1) ∨ (J = la + 6 ∧ 0 ≤ la)) := by
                    by_cases h : la < 0
                    · exact ⟨0, if_pos h, .inl ⟨rfl, by omega⟩⟩
                    · exact ⟨la + 6, if_neg h, .inr ⟨rfl, by omega⟩⟩
                  rw [hJ] at HB
                  have HJ := Lib.hid hJ
                  have HJ1 := Lib.hid hJ1
                  clear hJ hJ1
                  by_cases hil : i < l3.length
                  · have hii : (i : Int) < (l3.length : Int) := by omega
                    have hi0 : (0 : Int) ≤ (i : Int) := by omega
                    obtain ⟨gk, ok, rfl, hck⟩ := HR3.out.cell (j := i) (u := .int .i64 (l3.getD i 0)) (by simp [List.getD, hil])
                    have hxb := HW3.out (l3.getD i 0) (by simp [List.getD, hil])
                    obtain ⟨x, hx⟩ : ∃ x, l3.getD i 0 = x := ⟨_, rfl⟩
                    rw [hx] at hck hxb
                    obtain ⟨xb1, xb2⟩ := hxb
                    have cx0 := HP.out.chg.cell hck id
                    clear hck hx
                    by_cases hxr : 0 ≤ x ∧ x < (P2.length : Int)
                    · obtain ⟨x1, x2⟩ := hxr
                      obtain ⟨k, rfl⟩ : ∃ k : Nat, x = (k : Int) := ⟨x.toNat, by omega⟩
                      have hkP : k < P2.length := by omega
                      obtain ⟨gp, cp', up, hpe, _, hcp, hby⟩ := HP.out.at (i := k) (by rw [ons_len]; exact hkP)
                      rw [ons_len] at hpe
                      rw [ons_at l0 a1 P2 _ k hkP] at hby
                      cases hpe
                      obtain ⟨au, cu, rfl, _⟩ := hby.form
                      have HBY := Lib.hid hby
                      obtain ⟨g, o, ub2, rfl, hc, hb⟩ := K2.out.at hkP
                      obtain ⟨abd, cbd, rfl, _⟩ := hb.form
                      obtain ⟨bd, hbd⟩ : ∃ b, P2.getD k [] = b := ⟨_, rfl⟩
                      rw [hbd] at hc hb
                      have HBD := Lib.hid hb
                      have CBD := Lib.hid hc
                      have hlen : (sealL l0 (on a1 P2 k)).length ≤ 100000 := by
                        have h1 := HL.out k hkP
                        have h2 := sealL_len l0 (on a1 P2 k)
                        have h3 : (on a1 P2 k).b.length = (P2.getD k []).length := rfl
                        omega
                      have hmy := on_may a1 P2 k (by omega) ⟨hv1, hv2⟩ (HL.out k hkP)
                      have htx := take_seal ⟨l0, 2, a1, 0, J, la⟩ (k : Int) (on a1 P2 k) hmy
                      have htk := ptake_any wr gb gwb ub _ ⟨l0, 2, a1, 0, J, la⟩ (k : Int) (sealL l0 (on a1 P2 k)) (HT.out.kept HP.out.chg id) HB.out ⟨HKB.out, .inr rfl, ⟨hv1, hv2⟩, by (show (0 : Int) ≤ 0 ∧ (0 : Int) ≤ _); decide⟩ HBY.out hlen
                      rw [if_neg (by (show ¬ ((1 : Int) = 2 ∨ a1 ≠ a1)); simp)] at htx
                      have hob : (on a1 P2 k).b = bd := hbd
                      by_cases hlk : la < (k : Int)
                      · rw [if_pos (by (show J < (k : Int) + 6); have := HJ1.out; omega)] at htx
                        rw [htx] at htk
                        have htk2 : Calls Tryd.prog 43 #[ptr gb, .int .i64 (k : Int), .slice au (sealL l0 (on a1 P2 k)).length cu] wr fun e w' => ∃ x, e = .returned (.tuple #[x, .int .i64 0]) ∧ Fr wr w' x bd ∧ PeerR w' gb gwb ub ⟨l0, 2, a1, 0, if (k : Int) < 0 then 0 else (k : Int) + 6, (k : Int)⟩ ∧ Chg wr w' (two gb gwb) := by
                          refine htk.mono ?_
                          rintro e w' ⟨x, h1, h2, h3, h4⟩
                          refine ⟨x, h1, ?_, ?_, h4⟩
                          · rw [← hob]; exact h2
                          · rw [if_neg (show ¬ (k : Int) < 0 by omega)]
                            have h3' : PeerR w' gb gwb ub ⟨l0, 2, a1, 0, (k : Int) + 6, if 0 ≤ (k : Int) then (k : Int) else la⟩ := h3
                            rw [if_pos (show 0 ≤ (k : Int) by omega)] at h3'
                            exact h3'
                        have HTK := Lib.hid htk2
                        obtain ⟨sl, hsl⟩ : ∃ m, (sealL l0 (on a1 P2 k)).length = m := ⟨_, rfl⟩
                        rw [hsl] at HTK hcp
                        clear htk htk2 htx hmy hlen HBY hby hob hbd hc hb hsl
                        go_wp2_with fail
                        go_at_call 43
                        refine HTK.out.mono ?_
                        rintro e w6 ⟨y, rfl, hfy, hpb, hcc⟩
                        have HP3 : Hid (Pt w w6 (.slice _ P2.length _) (ons l0 a1 P2 P2.length)) := Lib.hid (HP.out.apart hcc (fun k hk => by
                          rcases hk with rfl | rfl
                          · exact ⟨HGB.out.1, _, _, HB.out.blk, by decide, by decide⟩
                          · exact ⟨HGB.out.2, _, _, HB.out.win, by decide, by decide⟩))
                        have HA3 := Lib.hid (HB.out.other HA.out hcc (Ne.symm HNE.out.1) (Ne.symm HNE.out.2))
                        have HB3 := Lib.hid hpb
                        have HY := Lib.hid (hfy.by HBD.out.byte)
                        obtain ⟨ay, cy, rfl, _⟩ := hfy.1.form
                        clear hfy hpb hcc HTK hcp cx0 HP HA HB
                        have hbc := HP3.out.chg.cell CBD.out id
                        have hBD6 := Lib.hid (HBD.out.kept HP3.out.chg)
                        have hmx : mxI la (k : Int) = (k : Int) := mxI_le (by omega)
                        have hk6 : IntKind.i64.wrap ((k : Int) + 6) = (k : Int) + 6 := by simp only [IntKind.wrap, IntKind.bits, IntKind.signed]; simp; omega
                        have hk6u : IntKind.u64.wrap ((k : Int) + 6) = (k : Int) + 6 := wrp_u64v _ (by omega) (by omega)
                        have hkk : (if (k : Int) < 0 then (0 : Int) else (k : Int) + 6) = (k : Int) + 6 := if_neg (by omega)
                        have HKK := Lib.hid hkk
                        clear hkk
                        go_wp2_with fail
                        go_at_call 18
                        refine (bytes_by HY.out hBD6.out).mono ?_
                        rw [show decide (bd = bd) = true from decide_eq_true rfl]
                        rintro e yy ⟨rfl, rfl⟩
                        go_wp2_with fail
                        go_at_call 45
                        refine (paddr_any w6 gb gwb ub _ HB3.out).mono ?_
                        rintro e yy ⟨rfl, rfl⟩
                        go_wp2_with fail
                        go_at_call 47
                        refine (pin_any w6 gb gwb ub _ HB3.out).mono ?_
                        simp only [HKK.out]
                        rintro e yy ⟨rfl, rfl⟩
                        go_wp2_with fail
                        try rw [hmx]
                        try go_wp2
                        go_roundw
                        case rel => exact ⟨i + 1, (k : Int), by omega, rfl, by go_num, by omega, by omega, HB3, HA3, HP3⟩
                        case measure => simp [intOf]; omega
                      · rw [if_neg (by (show ¬ J < (k : Int) + 6); have := HJ1.out; omega)] at htx
                        rw [htx] at htk
                        have HTK := Lib.hid htk
                        obtain ⟨sl, hsl⟩ : ∃ m, (sealL l0 (on a1 P2 k)).length = m := ⟨_, rfl⟩
                        rw [hsl] at HTK hcp
                        clear htk htx hmy hlen HBY hby hob hbd hc hb hsl
                        go_wp2_with fail
                        go_at_call 43
                        refine HTK.out.mono ?_
                        rintro e w6 ⟨y, rfl, hfy, hpb, hcc⟩
                        have HP3 : Hid (Pt w w6 (.slice _ P2.length _) (ons l0 a1 P2 P2.length)) := Lib.hid (HP.out.apart hcc (fun k hk => by
                          rcases hk with rfl | rfl
                          · exact ⟨HGB.out.1, _, _, HB.out.blk, by decide, by decide⟩
                          · exact ⟨HGB.out.2, _, _, HB.out.win, by decide, by decide⟩))
                        have HA3 := Lib.hid (HB.out.other HA.out hcc (Ne.symm HNE.out.1) (Ne.symm HNE.out.2))
                        have HB3 := Lib.hid hpb
                        obtain ⟨ay, cy, rfl, _⟩ := hfy.1.form
                        clear hfy hpb hcc HTK hcp cx0 HP HA HB
                        have hmx : mxI la (k : Int) = la := mxI_ge (by omega)
                        go_wp2_with fail
                        try rw [hmx]
                        try go_wp2
                        go_roundw
                        case rel => exact ⟨i + 1, la, by omega, rfl, by go_num, by omega, by omega, by rw [HJ.out]; exact HB3, HA3, HP3⟩
                        case measure => simp [intOf]; omega
                    · have hxo : (x < 0 ∧ x ≤ 0) ∨ ((P2.length : Int) ≤ x ∧ 0 ≤ x) := by omega
                      have htk := ptake_any wr gb gwb ub _ ⟨l0, 2, a1, 0, J, la⟩ 7 l4 (HT.out.kept HP.out.chg id) HB.out ⟨HKB.out, .inr rfl, ⟨hv1, hv2⟩, by (show (0 : Int) ≤ 0 ∧ (0 : Int) ≤ _); decide⟩ (K4.out.kept HP.out.chg) (by omega)
                      have hsm := take_same (s := ⟨l0, 2, a1, 0, J, la⟩) (fr := 7) (b := l4)
                      have hfl := forged_len (s := ⟨l0, 2, a1, 0, J, la⟩) (fr := 7) (b := l4)
                      obtain ⟨X, hX⟩ : ∃ X, takeX ⟨l0, 2, a1, 0, J, la⟩ 7 l4 = X := ⟨_, rfl⟩
                      rw [hX] at htk hsm hfl
                      obtain ⟨S', L, e⟩ := X
                      simp only at htk hsm hfl
                      have HTK := Lib.hid htk
                      clear hX htk
                      by_cases he : e = 0
                      · subst he
                        obtain ⟨f1, f2, f3⟩ := hfl rfl
                        obtain ⟨E, hE⟩ : ∃ E, l4.length = E + 16 := ⟨l4.length - 16, by omega⟩
                        have hEi : (l4.length : Int) - 16 = (E : Int) := by omega
                        have e0 : (0 : Int) ≤ (E : Int) := by omega
                        have e1 : (E : Int) ≤ (l4.length : Int) := by omega
                        have e4 : E ≤ l4.length := by omega
                        have e2 : (E : Int) ≤ (cap4 : Int) := by
                          obtain ⟨_, _, e, h⟩ := K4.out.form
                          cases e
                          omega
                        have eL : (L.length : Int) ≤ (E : Int) := by omega
                        rw [show l4.length - 16 = E by omega] at f2
                        have HF2 := Lib.hid (decide_eq_true f2)
                        clear hE f2 f3 hfl hsm f1
                        rcases hxo with ⟨hx0, hx0'⟩ | ⟨hx0, hx0'⟩
                        all_goals (
                          go_wp2_with fail
                          go_at_call 43
                          refine HTK.out.mono ?_
                          rintro e w6 ⟨y, rfl, hfy, hpb, hcc⟩
                          have HC : Hid (Chg w w6 nob) := Lib.hid (HP.out.chg.news hcc HGB.out.1 HGB.out.2)
                          obtain ⟨ay, cy, rfl, _⟩ := hfy.1.form
                          clear hfy hpb hcc HTK cx0
                          go_wp2_with fail
                          refine wp_one [] [10, 14] [] [0, 1, 2, 3, 4, 5, 6, 7, 8, 9, 11, 12, 13, 10, 14, 15, 16, 17] rfl (by kernel_rfl) (fun _ _ _ _ _ h => h) ?_; simp only [List.map_cons, List.map_nil, List.getElem?_toArray, List.getElem?_cons_zero, List.getElem?_cons_succ]
                          obtain ⟨wd, hwd⟩ : ∃ W, World.drew w6 = W := ⟨_, rfl⟩
                          have hcd : Chg w6 wd nob := by rw [← hwd]; exact (Chg.refl w6 nob).drew
                          rw [hwd]
                          replace HC : Hid (Chg w wd nob) := Lib.hid (HC.out.trans hcd (fun _ _ h => h))
                          clear hcd hwd
                          (repeat (first | (apply can0; (· rfl); (· rfl); (· (intro w'; first | (go_simp; with_reducible rfl) | (go_simp; done))); simp only [Act.put, List.setIfInBounds_toArray, List.set_cons_zero, List.set_cons_succ]) | (apply can1; (· rfl); (· rfl); (· (first | (go_simp; with_reducible rfl) | (go_simp; done))); simp only [Act.put, List.setIfInBounds_toArray, List.set_cons_zero, List.set_cons_succ]) | (apply canN; (· rfl); (· rfl); simp only [Act.put, List.setIfInBounds_toArray, List.set_cons_zero, List.set_cons_succ]) | (apply canN1; (· rfl); (· rfl); simp only [Act.put, List.setIfInBounds_toArray, List.set_cons_zero, List.set_cons_succ]) | (apply can0; (· rfl); (· (go_simp; done)); (· (intro w'; first | (go_simp; with_reducible rfl) | (go_simp; done))); simp only [Act.put, List.setIfInBounds_toArray, List.set_cons_zero, List.set_cons_succ]) | (apply can1; (· rfl); (· (go_simp; done)); (· (first | (go_simp; with_reducible rfl) | (go_simp; done))); simp only [Act.put, List.setIfInBounds_toArray, List.set_cons_zero, List.set_cons_succ]) | (apply canN; (· rfl); (· (go_simp; done)); simp only [Act.put, List.setIfInBounds_toArray, List.set_cons_zero, List.set_cons_succ]) | (apply canN1; (· rfl); (· (go_simp; done)); simp only [Act.put, List.setIfInBounds_toArray, List.set_cons_zero, List.set_cons_succ])))
                          refine canW rfl [] rfl (fun K hK => ?_)
                          go_simp
                          go_at_call 22
                          have HDR := Lib.hid ((K4.out.kept HC.out).drop e4)
                          refine (rtag_by (K0.out.kept HC.out) ((K4.out.kept HC.out).take e4) (by omega) (by simp; omega)).mono ?_
                          rintro e v3 ⟨tv, rfl, hb, hck⟩
                          have HTV := Lib.hid hb
                          replace HDR := Lib.hid (HDR.out.kept hck)
                          replace HC : Hid (Chg w v3 nob) := Lib.hid (HC.out.trans hck (fun _ _ h => h))
                          clear hb hck
                          (refine hK _ _ (fun u hu => by cases hu) ?_; clear hK K; try simp only [Act.put, List.setIfInBounds_toArray, List.set_cons_zero, List.set_cons_succ])
                          (repeat (first | (apply can0; (· rfl); (· rfl); (· (intro w'; first | (go_simp; with_reducible rfl) | (go_simp; done))); simp only [Act.put, List.setIfInBounds_toArray, List.set_cons_zero, List.set_cons_succ]) | (apply can1; (· rfl); (· rfl); (· (first | (go_simp; with_reducible rfl) | (go_simp; done))); simp only [Act.put, List.setIfInBounds_toArray, List.set_cons_zero, List.set_cons_succ]) | (apply canN; (· rfl); (· rfl); simp only [Act.put, List.setIfInBounds_toArray, List.set_cons_zero, List.set_cons_succ]) | (apply canN1; (· rfl); (· rfl); simp only [Act.put, List.setIfInBounds_toArray, List.set_cons_zero, List.set_cons_succ]) | (apply can0; (· rfl); (· (go_simp; done)); (· (intro w'; first | (go_simp; with_reducible rfl) | (go_simp; done))); simp only [Act.put, List.setIfInBounds_toArray, List.set_cons_zero, List.set_cons_succ]) | (apply can1; (· rfl); (· (go_simp; done)); (· (first | (go_simp; with_reducible rfl) | (go_simp; done))); simp only [Act.put, List.setIfInBounds_toArray, List.set_cons_zero, List.set_cons_succ]) | (apply canN; (· rfl); (· (go_simp; done)); simp only [Act.put, List.setIfInBounds_toArray, List.set_cons_zero, List.set_cons_succ]) | (apply canN1; (· rfl); (· (go_simp; done)); simp only [Act.put, List.setIfInBounds_toArray, List.set_cons_zero, List.set_cons_succ])))
                          refine canW rfl [] rfl (fun K hK => ?_)
                          go_simp
                          go_at_call 18
                          refine (bytes_by HTV.out HDR.out).mono ?_
                          rw [HF2.out]
                          rintro e yy ⟨rfl, rfl⟩
                          (refine hK _ _ (fun u hu => by cases hu) ?_; clear hK K; try simp only [Act.put, List.setIfInBounds_toArray, List.set_cons_zero, List.set_cons_succ])
                          (repeat (first | (apply can0; (· rfl); (· rfl); (· (intro w'; first | (go_simp; with_reducible rfl) | (go_simp; done))); simp only [Act.put, List.setIfInBounds_toArray, List.set_cons_zero, List.set_cons_succ]) | (apply can1; (· rfl); (· rfl); (· (first | (go_simp; with_reducible rfl) | (go_simp; done))); simp only [Act.put, List.setIfInBounds_toArray, List.set_cons_zero, List.set_cons_succ]) | (apply canN; (· rfl); (· rfl); simp only [Act.put, List.setIfInBounds_toArray, List.set_cons_zero, List.set_cons_succ]) | (apply canN1; (· rfl); (· rfl); simp only [Act.put, List.setIfInBounds_toArray, List.set_cons_zero, List.set_cons_succ]) | (apply can0; (· rfl); (· (go_simp; done)); (· (intro w'; first | (go_simp; with_reducible rfl) | (go_simp; done))); simp only [Act.put, List.setIfInBounds_toArray, List.set_cons_zero, List.set_cons_succ]) | (apply can1; (· rfl); (· (go_simp; done)); (· (first | (go_simp; with_reducible rfl) | (go_simp; done))); simp only [Act.put, List.setIfInBounds_toArray, List.set_cons_zero, List.set_cons_succ]) | (apply canN; (· rfl); (· (go_simp; done)); simp only [Act.put, List.setIfInBounds_toArray, List.set_cons_zero, List.set_cons_succ]) | (apply canN1; (· rfl); (· (go_simp; done)); simp only [Act.put, List.setIfInBounds_toArray, List.set_cons_zero, List.set_cons_succ])))
                          refine canE ?_
                          go_wp2_with fail
                          go_at_call 37
                          refine (first27_any v3 (HT.out.kept HC.out id)).mono ?_
                          rintro e x ⟨rfl, hx⟩
                          have HXX := Lib.hid hx
                          clear hx
                          go_wp2
                          go_ret
                          exact ⟨rfl, HC.out.trans HXX.out (fun _ _ h => h)⟩
                          )
                      · have hSS := hsm he
                        subst hSS
                        have he' : (e == 0) = false := by simpa using he
                        have he2 : (e != 0) = true := by simpa using he
                        clear hfl hsm he
                        rcases hxo with ⟨hx0, hx0'⟩ | ⟨hx0, hx0'⟩
                        all_goals (
                          go_wp2_with fail
                          go_at_call 43
                          refine HTK.out.mono ?_
                          rintro e w6 ⟨y, rfl, hfy, hpb, hcc⟩
                          have HP3 : Hid (Pt w w6 (.slice _ P2.length _) (ons l0 a1 P2 P2.length)) := Lib.hid (HP.out.apart hcc (fun k hk => by
                            rcases hk with rfl | rfl
                            · exact ⟨HGB.out.1, _, _, HB.out.blk, by decide, by decide⟩
                            · exact ⟨HGB.out.2, _, _, HB.out.win, by decide, by decide⟩))
                          have HA3 := Lib.hid (HB.out.other HA.out hcc (Ne.symm HNE.out.1) (Ne.symm HNE.out.2))
                          have HB3 := Lib.hid hpb
                          obtain ⟨ay, cy, rfl, _⟩ := hfy.1.form
                          clear hfy hpb hcc HTK cx0 HP HA HB
                          go_wp2_with fail
                          refine wp_one [] [10, 14] [] [0, 1, 2, 3, 4, 5, 6, 7, 8, 9, 11, 12, 13, 10, 14, 15, 16, 17] rfl (by kernel_rfl) (fun _ _ _ _ _ h => h) ?_; simp only [List.map_cons, List.map_nil, List.getElem?_toArray, List.getElem?_cons_zero, List.getElem?_cons_succ]
                          obtain ⟨wd, hwd⟩ : ∃ W, World.drew w6 = W := ⟨_, rfl⟩
                          have hcd : Chg w6 wd nob := by rw [← hwd]; exact (Chg.refl w6 nob).drew
                          rw [hwd]
                          replace HP3 := Lib.hid (HP3.out.kept hcd)
                          replace HA3 := Lib.hid (HA3.out.kept hcd)
                          replace HB3 := Lib.hid (HB3.out.kept hcd)
                          clear hcd hwd
                          (repeat (first | (apply can0; (· rfl); (· rfl); (· (intro w'; first | (go_simp; with_reducible rfl) | (go_simp; done))); simp only [Act.put, List.setIfInBounds_toArray, List.set_cons_zero, List.set_cons_succ]) | (apply can1; (· rfl); (· rfl); (· (first | (go_simp; with_reducible rfl) | (go_simp; done))); simp only [Act.put, List.setIfInBounds_toArray, List.set_cons_zero, List.set_cons_succ]) | (apply canN; (· rfl); (· rfl); simp only [Act.put, List.setIfInBounds_toArray, List.set_cons_zero, List.set_cons_succ]) | (apply canN1; (· rfl); (· rfl); simp only [Act.put, List.setIfInBounds_toArray, List.set_cons_zero, List.set_cons_succ]) | (apply can0; (· rfl); (· (go_simp; done)); (· (intro w'; first | (go_simp; with_reducible rfl) | (go_simp; done))); simp only [Act.put, List.setIfInBounds_toArray, List.set_cons_zero, List.set_cons_succ]) | (apply can1; (· rfl); (· (go_simp; done)); (· (first | (go_simp; with_reducible rfl) | (go_simp; done))); simp only [Act.put, List.setIfInBounds_toArray, List.set_cons_zero, List.set_cons_succ]) | (apply canN; (· rfl); (· (go_simp; done)); simp only [Act.put, List.setIfInBounds_toArray, List.set_cons_zero, List.set_cons_succ]) | (apply canN1; (· rfl); (· (go_simp; done)); simp only [Act.put, List.setIfInBounds_toArray, List.set_cons_zero, List.set_cons_succ])))
                          refine canM rfl [] rfl rfl (fun u hu => by cases hu) ?_
                          (repeat (first | (apply can0; (· rfl); (· rfl); (· (intro w'; first | (go_simp; with_reducible rfl) | (go_simp; done))); simp only [Act.put, List.setIfInBounds_toArray, List.set_cons_zero, List.set_cons_succ]) | (apply can1; (· rfl); (· rfl); (· (first | (go_simp; with_reducible rfl) | (go_simp; done))); simp only [Act.put, List.setIfInBounds_toArray, List.set_cons_zero, List.set_cons_succ]) | (apply canN; (· rfl); (· rfl); simp only [Act.put, List.setIfInBounds_toArray, List.set_cons_zero, List.set_cons_succ]) | (apply canN1; (· rfl); (· rfl); simp only [Act.put, List.setIfInBounds_toArray, List.set_cons_zero, List.set_cons_succ]) | (apply can0; (· rfl); (· (go_simp; done)); (· (intro w'; first | (go_simp; with_reducible rfl) | (go_simp; done))); simp only [Act.put, List.setIfInBounds_toArray, List.set_cons_zero, List.set_cons_succ]) | (apply can1; (· rfl); (· (go_simp; done)); (· (first | (go_simp; with_reducible rfl) | (go_simp; done))); simp only [Act.put, List.setIfInBounds_toArray, List.set_cons_zero, List.set_cons_succ]) | (apply canN; (· rfl); (· (go_simp; done)); simp only [Act.put, List.setIfInBounds_toArray, List.set_cons_zero, List.set_cons_succ]) | (apply canN1; (· rfl); (· (go_simp; done)); simp only [Act.put, List.setIfInBounds_toArray, List.set_cons_zero, List.set_cons_succ])))
                          refine canM rfl [] rfl rfl (fun u hu => by cases hu) ?_
                          (repeat (first | (apply can0; (· rfl); (· rfl); (· (intro w'; first | (go_simp; with_reducible rfl) | (go_simp; done))); simp only [Act.put, List.setIfInBounds_toArray, List.set_cons_zero, List.set_cons_succ]) | (apply can1; (· rfl); (· rfl); (· (first | (go_simp; with_reducible rfl) | (go_simp; done))); simp only [Act.put, List.setIfInBounds_toArray, List.set_cons_zero, List.set_cons_succ]) | (apply canN; (· rfl); (· rfl); simp only [Act.put, List.setIfInBounds_toArray, List.set_cons_zero, List.set_cons_succ]) | (apply canN1; (· rfl); (· rfl); simp only [Act.put, List.setIfInBounds_toArray, List.set_cons_zero, List.set_cons_succ]) | (apply can0; (· rfl); (· (go_simp; done)); (· (intro w'; first | (go_simp; with_reducible rfl) | (go_simp; done))); simp only [Act.put, List.setIfInBounds_toArray, List.set_cons_zero, List.set_cons_succ]) | (apply can1; (· rfl); (· (go_simp; done)); (· (first | (go_simp; with_reducible rfl) | (go_simp; done))); simp only [Act.put, List.setIfInBounds_toArray, List.set_cons_zero, List.set_cons_succ]) | (apply canN; (· rfl); (· (go_simp; done)); simp only [Act.put, List.setIfInBounds_toArray, List.set_cons_zero, List.set_cons_succ]) | (apply canN1; (· rfl); (· (go_simp; done)); simp only [Act.put, List.setIfInBounds_toArray, List.set_cons_zero, List.set_cons_succ])))
                          refine canE ?_
                          go_wp2
                          go_roundw
                          case rel => exact ⟨i + 1, la, by omega, rfl, by go_num, by omega, by omega, by rw [HJ.out]; exact HB3, HA3, HP3⟩
                          case measure => simp [intOf]; omega)
                  · obtain rfl : i = l3.length := by omega
                    rename World => wx
                    have HC : Hid (Chg w wx nob) := Lib.hid HP.out.chg
                    have hw5 : IntKind.i64.wrap (5 + (P2.length : Int)) = 5 + (P2.length : Int) := by simp only [IntKind.wrap, IntKind.bits, IntKind.signed]; simp; omega
                    have hu5 : IntKind.u64.wrap (5 + (P2.length : Int)) = 5 + (P2.length : Int) := wrp_u64v _ (by omega) (by omega)
                    have he5 : ((P2.length : Int) + 5 == 5 + (P2.length : Int)) = true := by simp; omega
                    go_wp2_with fail
                    go_at_call 37
                    refine (first27_any wx (HT.out.kept HC.out id)).mono ?_
                    rintro e w7 ⟨rfl, hcc⟩
                    replace HA := Lib.hid (HA.out.kept hcc)
                    replace HC : Hid (Chg w w7 nob) := Lib.hid (HC.out.trans hcc (fun _ _ h => h))
                    clear hcc
                    go_wp2_with fail
                    go_at_call 46
                    refine (pout_any w7 ga gwa ua _ HA.out).mono ?_
                    rintro e yy ⟨rfl, rfl⟩
                    go_wp2_with fail
                    go_at_call 45
                    refine (paddr_any w7 ga gwa ua _ HA.out).mono ?_
                    rintro e yy ⟨rfl, rfl⟩
                    go_wp2
                    go_ret
                    exact ⟨rfl, HC.out⟩
          · have HIN := Lib.hid hin
            clear hin
            go_wp2_with fail
            all_goals first
              | (exfalso; exact HIN.out ⟨by omega, by omega, by omega, by omega⟩)
              | (
                 go_at_call 37
                 refine (first27_any w4 (HT.out.kept HC.out id)).mono ?_
                 rintro e x ⟨rfl, hx⟩
                 have HXX := Lib.hid hx
                 clear hx
                 go_wp2
                 go_ret
                 exact ⟨rfl, HC.out.trans HXX.out (fun _ _ h => h)⟩
                 )
    · have HV : Hid (0 ≤ a1 → ¬ a1 < 8) := Lib.hid (fun h1 h2 => hv ⟨h1, h2⟩)
      clear hv
      go_enter Tryd.func11, Tryd.ntmps11
      go_wp2_with fail
      go_at_call 37
      refine (first27_any w HT.out).mono ?_
      rintro e w1 ⟨rfl, hck⟩
      have HC := Lib.hid hck
      clear hck
      go_wp2_with fail
      go_loopw [11, 12] (fun nv iv wr => ∃ (i : Nat) (n : Int), i ≤ P2.length ∧ i ≤ 100 ∧ nv = .int .i64 n ∧ iv = .int .i64 i ∧ (l4.length : Int) ≤ n ∧ n ≤ (l4.length : Int) + 20001 * (i : Int) ∧ w1 = wr) (fun _ iv _ => P2.length - (intOf iv).toNat)
      case atStart => exact ⟨0, (l4.length : Int), by omega, by omega, rfl, rfl, by omega, by omega, by first | rfl | trivial⟩
      case round =>
        obtain ⟨i, n, hi, hi1, rfl, rfl, hn1, hn2, rfl⟩ := hrel
        by_cases hil : i < P2.length ∧ i < 100
        · obtain ⟨hil, hi100⟩ := hil
          have hii : (i : Int) < (P2.length : Int) := by omega
          have hii1 : (i : Int) < 100 := by omega
          have hi0 : (0 : Int) ≤ (i : Int) := by omega
          obtain ⟨g, o, u, rfl, hc, hb⟩ := K2.out.at hil
          obtain ⟨au, cu, rfl, _⟩ := hb.form
          have hc1 := HC.out.cell hc id
          obtain ⟨m, hm⟩ : ∃ m, (P2.getD i []).length = m := ⟨_, rfl⟩
          rw [hm] at hc hc1
          obtain ⟨z, hz, hz1, hz2⟩ : ∃ z : Int, mnI (m : Int) 20001 = z ∧ 0 ≤ z ∧ z ≤ 20001 := ⟨_, rfl, by unfold mnI; split <;> omega, by unfold mnI; split <;> omega⟩
          have HZ := Lib.hid hz
          have hwn : IntKind.i64.wrap (n + z) = n + z := by simp only [IntKind.wrap, IntKind.bits, IntKind.signed]; simp; omega
          clear hm hb hz hc
          go_wp2_with (rw [HZ.out])
          go_roundw
          case rel => exact ⟨i + 1, n + z, by omega, by omega, rfl, by go_num, by omega, by omega, by first | rfl | trivial⟩
          case measure => simp [intOf]; omega
        · have hend : i = P2.length := by omega
          subst hend
          have hnl : ¬ P2.length < P2.length := by omega
          clear hil
          go_wp2_with fail
          go_at_call 39
          refine (pnew_no w1 _ 1 a1 5 (fun h => by have h1 := HV.out h.2.1; have h3 := h.2.2.1; omega)).mono ?_
          rintro e w2 ⟨rfl, hck⟩
          replace HC : Hid (Chg w w2 nob) := Lib.hid (HC.out.trans hck (fun _ _ h => h))
          clear hck
          go_wp2_with fail
          go_at_call 39
          refine (pnew_no w2 _ 2 a1 0 (fun h => by have h1 := HV.out h.2.1; have h3 := h.2.2.1; omega)).mono ?_
          rintro e w4 ⟨rfl, hck⟩
          replace HC : Hid (Chg w w4 nob) := Lib.hid (HC.out.trans hck (fun _ _ h => h))
          clear hck
          go_wp2_with fail
          all_goals (
            go_at_call 37
            refine (first27_any w4 (HT.out.kept HC.out id)).mono ?_
            rintro e x ⟨rfl, hx⟩
            have HXX := Lib.hid hx
            clear hx
            go_wp2
            go_ret
            exact ⟨rfl, HC.out.trans HXX.out (fun _ _ h => h)⟩
            )
  · have hP' : 100 < P2.length := by omega
    have hPi : (100 : Int) < (P2.length : Int) := by omega
    rcases HV0 with ⟨hv1, hv2⟩ | hv
    · have HV1 := Lib.hid hv1
      go_enter Tryd.func11, Tryd.ntmps11
      go_wp2_with fail
      go_at_call 37
      refine (first27_any w HT.out).mono ?_
      rintro e w1 ⟨rfl, hck⟩
      have HC := Lib.hid hck
      clear hck
      go_wp2_with fail
      go_loopw [11, 12] (fun nv iv wr => ∃ (i : Nat) (n : Int), i ≤ P2.length ∧ i ≤ 100 ∧ nv = .int .i64 n ∧ iv = .int .i64 i ∧ (l4.length : Int) ≤ n ∧ n ≤ (l4.length : Int) + 20001 * (i : Int) ∧ w1 = wr) (fun _ iv _ => P2.length - (intOf iv).toNat)
      case atStart => exact ⟨0, (l4.length : Int), by omega, by omega, rfl, rfl, by omega, by omega, by first | rfl | trivial⟩
      case round =>
        obtain ⟨i, n, hi, hi1, rfl, rfl, hn1, hn2, rfl⟩ := hrel
        by_cases hil : i < P2.length ∧ i < 100
        · obtain ⟨hil, hi100⟩ := hil
          have hii : (i : Int) < (P2.length : Int) := by omega
          have hii1 : (i : Int) < 100 := by omega
          have hi0 : (0 : Int) ≤ (i : Int) := by omega
          obtain ⟨g, o, u, rfl, hc, hb⟩ := K2.out.at hil
          obtain ⟨au, cu, rfl, _⟩ := hb.form
          have hc1 := HC.out.cell hc id
          obtain ⟨m, hm⟩ : ∃ m, (P2.getD i []).length = m := ⟨_, rfl⟩
          rw [hm] at hc hc1
          obtain ⟨z, hz, hz1, hz2⟩ : ∃ z : Int, mnI (m : Int) 20001 = z ∧ 0 ≤ z ∧ z ≤ 20001 := ⟨_, rfl, by unfold mnI; split <;> omega, by unfold mnI; split <;> omega⟩
          have HZ := Lib.hid hz
          have hwn : IntKind.i64.wrap (n + z) = n + z := by simp only [IntKind.wrap, IntKind.bits, IntKind.signed]; simp; omega
          clear hm hb hz hc
          go_wp2_with (rw [HZ.out])
          go_roundw
          case rel => exact ⟨i + 1, n + z, by omega, by omega, rfl, by go_num, by omega, by omega, by first | rfl | trivial⟩
          case measure => simp [intOf]; omega
        · have hend : i = 100 := by omega
          subst hend
          clear hil
          go_wp2_with fail
          go_at_call 39
          refine (pnew_ok w1 l0 _ 1 a1 5 (K0.out.kept HC.out) (by omega) ⟨.inl rfl, hv1, hv2, by decide⟩).mono ?_
          rintro e w2 ⟨ga, gwa, ua, rfl, hpa, hca, hga, hgwa, hua⟩
          have HA := Lib.hid hpa
          have HGA : Hid (w.heap.size ≤ ga ∧ w.heap.size ≤ gwa ∧ ga < w2.heap.size ∧ gwa < w2.heap.size) := Lib.hid ⟨Nat.le_trans HC.out.size hga, Nat.le_trans HC.out.size hgwa, hpa.blk.lt, hpa.win.lt⟩
          replace HC : Hid (Chg w w2 nob) := Lib.hid (HC.out.trans hca (fun _ _ h => h))
          clear hpa hca hga hgwa hua
          go_wp2_with fail
          go_at_call 39
          refine (pnew_ok w2 l0 _ 2 a1 0 (K0.out.kept HC.out) (by omega) ⟨.inr rfl, hv1, hv2, by decide⟩).mono ?_
          rintro e w4 ⟨gb, gwb, ub, rfl, hpb, hck, hgb, hgwb, hub⟩
          have HB := Lib.hid hpb
          have HNE : Hid (ga ≠ gb ∧ gwa ≠ gwb) := Lib.hid (by have h1 := HGA.out; constructor <;> omega)
          have HGB : Hid (w.heap.size ≤ gb ∧ w.heap.size ≤ gwb) := Lib.hid (by have h1 := HC.out.size; constructor <;> omega)
          replace HC : Hid (Chg w w4 nob) := Lib.hid (HC.out.trans hck (fun _ _ h => h))
          replace HA := Lib.hid (HA.out.kept hck)
          clear hpb hgb hgwb hub hck
          go_wp2_with fail
          all_goals (
            go_at_call 37
            refine (first27_any w4 (HT.out.kept HC.out id)).mono ?_
            rintro e x ⟨rfl, hx⟩
            have HXX := Lib.hid hx
            clear hx
            go_wp2
            go_ret
            exact ⟨rfl, HC.out.trans HXX.out (fun _ _ h => h)⟩
            )
    · have HV : Hid (0 ≤ a1 → ¬ a1 < 8) := Lib.hid (fun h1 h2 => hv ⟨h1, h2⟩)
      clear hv
      go_enter Tryd.func11, Tryd.ntmps11
      go_wp2_with fail
      go_at_call 37
      refine (first27_any w HT.out).mono ?_
      rintro e w1 ⟨rfl, hck⟩
      have HC := Lib.hid hck
      clear hck
      go_wp2_with fail
      go_loopw [11, 12] (fun nv iv wr => ∃ (i : Nat) (n : Int), i ≤ P2.length ∧ i ≤ 100 ∧ nv = .int .i64 n ∧ iv = .int .i64 i ∧ (l4.length : Int) ≤ n ∧ n ≤ (l4.length : Int) + 20001 * (i : Int) ∧ w1 = wr) (fun _ iv _ => P2.length - (intOf iv).toNat)
      case atStart => exact ⟨0, (l4.length : Int), by omega, by omega, rfl, rfl, by omega, by omega, by first | rfl | trivial⟩
      case round =>
        obtain ⟨i, n, hi, hi1, rfl, rfl, hn1, hn2, rfl⟩ := hrel
        by_cases hil : i < P2.length ∧ i < 100
        · obtain ⟨hil, hi100⟩ := hil
          have hii : (i : Int) < (P2.length : Int) := by omega
          have hii1 : (i : Int) < 100 := by omega
          have hi0 : (0 : Int) ≤ (i : Int) := by omega
          obtain ⟨g, o, u, rfl, hc, hb⟩ := K2.out.at hil
          obtain ⟨au, cu, rfl, _⟩ := hb.form
          have hc1 := HC.out.cell hc id
          obtain ⟨m, hm⟩ : ∃ m, (P2.getD i []).length = m := ⟨_, rfl⟩
          rw [hm] at hc hc1
          obtain ⟨z, hz, hz1, hz2⟩ : ∃ z : Int, mnI (m : Int) 20001 = z ∧ 0 ≤ z ∧ z ≤ 20001 := ⟨_, rfl, by unfold mnI; split <;> omega, by unfold mnI; split <;> omega⟩
          have HZ := Lib.hid hz
          have hwn : IntKind.i64.wrap (n + z) = n + z := by simp only [IntKind.wrap, IntKind.bits, IntKind.signed]; simp; omega
          clear hm hb hz hc
          go_wp2_with (rw [HZ.out])
          go_roundw
          case rel => exact ⟨i + 1, n + z, by omega, by omega, rfl, by go_num, by omega, by omega, by first | rfl | trivial⟩
          case measure => simp [intOf]; omega
        · have hend : i = 100 := by omega
          subst hend
          clear hil
          go_wp2_with fail
          go_at_call 39
          refine (pnew_no w1 _ 1 a1 5 (fun h => by have h1 := HV.out h.2.1; have h3 := h.2.2.1; omega)).mono ?_
          rintro e w2 ⟨rfl, hck⟩
          replace HC : Hid (Chg w w2 nob) := Lib.hid (HC.out.trans hck (fun _ _ h => h))
          clear hck
          go_wp2_with fail
          go_at_call 39
          refine (pnew_no w2 _ 2 a1 0 (fun h => by have h1 := HV.out h.2.1; have h3 := h.2.2.1; omega)).mono ?_
          rintro e w4 ⟨rfl, hck⟩
          replace HC : Hid (Chg w w4 nob) := Lib.hid (HC.out.trans hck (fun _ _ h => h))
          clear hck
          go_wp2_with fail
          all_goals (
            go_at_call 37
            refine (first27_any w4 (HT.out.kept HC.out id)).mono ?_
            rintro e x ⟨rfl, hx⟩
            have HXX := Lib.hid hx
            clear hx
            go_wp2
            go_ret
            exact ⟨rfl, HC.out.trans HXX.out (fun _ _ h => h)⟩
            )
end Go.Proofs.YtajcefdbljbmdaaDoor
