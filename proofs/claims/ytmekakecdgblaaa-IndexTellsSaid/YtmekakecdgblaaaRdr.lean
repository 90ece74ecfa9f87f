
/-
  The program's reader (package wire): its inner parts, which panic with a stop.
-/
import Derived.Test.YtmekakecdgblaaaGet
import Derived.Test.YtmekakecdgblaaaA
import Derived.Test.YtmekakecdgblaaaRec
import Derived.Test.YtmekakecdgblaaaClone
import Derived.Laws.Bits64b
namespace Go.Proofs.Ytmekakecdgblaaa
open Go.RowKit
set_option linter.unusedVariables false
set_option linter.unusedSimpArgs false

/-- A reader of the bytes B that stands at p; e: why it failed. -/
structure RdrR (w : World) (g : Nat) (u : Value) (B : List Int) (p : Nat) (e : Int) : Prop where
  blk : Blk w g 65 #[u, .int .i64 p, .int .i64 e]
  own : Own w 5 1 u B.length (bytesV B)
  byte : ∀ x ∈ B, 0 ≤ x ∧ x ≤ 255
  le : p ≤ B.length
  big : B.length ≤ 140737488351232
abbrev stopE (e : Int) : Ending := .panicked [{ v := .iface 68 (.agg #[.int .i64 e]), recovered := false }]
section
variable {w w' : World} {g : Nat} {u : Value} {B : List Int} {p : Nat} {e : Int}
theorem RdrR.kept (h : RdrR w g u B p e) (hc : Chg w w' nob) : RdrR w' g u B p e := ⟨h.blk.kept hc id, h.own.kept hc (fun _ _ => id), h.byte, h.le, h.big⟩
theorem RdrR.by (h : RdrR w g u B p e) : By w u B := ⟨h.own.rd, h.own.nilOk, h.byte⟩
theorem RdrR.ne (h : RdrR w g u B p e) : ¬ blkOf u g := h.own.ne h.blk (by decide)
theorem RdrR.set1 (h : RdrR w g u B p e) (q : Nat) (hq : q ≤ B.length) : RdrR (w.setCell ⟨g, 1, none⟩ (.int .i64 q)) g u B q e :=
  ⟨h.blk.set 1 _, h.own.setOther (p := ⟨g, 1, none⟩) h.ne _, h.byte, hq, h.big⟩
theorem RdrR.set2 (h : RdrR w g u B p e) (q : Int) : RdrR (w.setCell ⟨g, 2, none⟩ (.int .i64 q)) g u B p q :=
  ⟨h.blk.set 2 _, h.own.setOther (p := ⟨g, 2, none⟩) h.ne _, h.byte, h.le, h.big⟩
end
set_option maxRecDepth 100000 in
theorem left_any (w : World) (g : Nat) (u : Value) (B : List Int) (p : Nat) (e : Int) (h : RdrR w g u B p e) : Calls Try.prog 46 #[ptr g] w fun e' w' => e' = .returned (.int .i64 ((B.length : Int) - (p : Int))) ∧ Chg w w' nob := by
  obtain ⟨a, c, rfl, _⟩ := h.own.form
  have HR := Lib.hid h
  have h1 := h.le
  have h2 := h.big
  have hw1 : IntKind.i64.wrap ((B.length : Int) - (p : Int)) = (B.length : Int) - (p : Int) := by simp only [IntKind.wrap, IntKind.bits, IntKind.signed]; simp; omega
  clear h
  have q0 := HR.out.blk.cell 0
  have q1 := HR.out.blk.cell 1
  have q2 := HR.out.blk.cell 2
  simp only [List.getElem?_toArray, List.getElem?_cons_zero, List.getElem?_cons_succ] at q0 q1 q2
  have f1 := HR.out.blk.free 1
  have f2 := HR.out.blk.free 2
  go_enter Try.func46, Try.ntmps46
  go_wp2_with fail
  go_quiet (fail)
  go_wp2
  go_ret
  exact ⟨rfl, (Chg.refl w nob).drewN _⟩
set_option maxRecDepth 100000 in
theorem err_any (w : World) (g : Nat) (u : Value) (B : List Int) (p : Nat) (e : Int) (h : RdrR w g u B p e) : Calls Try.prog 24 #[ptr g] w fun e' w' => e' = .returned (.int .i64 e) ∧ w = w' := by
  have HR := Lib.hid h
  clear h
  have q0 := HR.out.blk.cell 0
  have q1 := HR.out.blk.cell 1
  have q2 := HR.out.blk.cell 2
  simp only [List.getElem?_toArray, List.getElem?_cons_zero, List.getElem?_cons_succ] at q0 q1 q2
  have f1 := HR.out.blk.free 1
  have f2 := HR.out.blk.free 2
  go_enter Try.func24, Try.ntmps24
  go_wp2
  go_ret
  exact ⟨rfl, rfl⟩
set_option maxRecDepth 100000 in
theorem byte_ok (w : World) (g : Nat) (u : Value) (B : List Int) (p : Nat) (e : Int) (h : RdrR w g u B p e) (hp : p < B.length) :
    Calls Try.prog 49 #[ptr g] w fun e' w' => e' = .returned (.int .u8 (B.getD p 0)) ∧ RdrR w' g u B (p + 1) e ∧ Chg w w' (fun k => k = g) := by
  obtain ⟨a, c, rfl, _⟩ := h.own.form
  obtain ⟨gb, ob, hab, hc⟩ := h.by.cell hp
  subst hab
  obtain ⟨bv, hbv⟩ : ∃ b, B.getD p 0 = b := ⟨_, rfl⟩
  rw [hbv] at hc ⊢
  clear hbv
  have HR := Lib.hid h
  have h1 := h.big
  have hbi : (p : Int) < (B.length : Int) := by omega
  have hpe : ((p : Int) == (B.length : Int)) = false := by simp; omega
  have hw1 : IntKind.i64.wrap ((p : Int) + 1) = (p : Int) + 1 := by simp only [IntKind.wrap, IntKind.bits, IntKind.signed]; simp; omega
  have hne := h.ne
  clear h
  have q0 := HR.out.blk.cell 0
  have q1 := HR.out.blk.cell 1
  have q2 := HR.out.blk.cell 2
  simp only [List.getElem?_toArray, List.getElem?_cons_zero, List.getElem?_cons_succ] at q0 q1 q2
  have f1 := HR.out.blk.free 1
  have f2 := HR.out.blk.free 2
  go_enter Try.func49, Try.ntmps49
  go_wp2_with fail
  go_quiet (fail)
  go_upto_region 4 with (fail)
  obtain ⟨w1, hw⟩ : ∃ W, (World.drewN w nq).setCell ⟨g, 1, none⟩ (.int .i64 ((p : Int) + 1)) = W := ⟨_, rfl⟩
  have HR1 : Hid (RdrR w1 g (.slice (some ⟨gb, ob, none⟩) B.length c) B (p + 1) e) := Lib.hid (by
    rw [← hw]
    exact (HR.out.kept ((Chg.refl w nob).drewN _)).set1 (p + 1) (by omega))
  have HC : Hid (Chg w w1 (fun k => k = g)) := Lib.hid (by
    rw [← hw]
    exact ((Chg.refl w (fun k => k = g)).drewN _).setCell (p := ⟨g, 1, none⟩) (.inl rfl) _)
  have hcb := HC.out.cell hc (fun e => hne (by rw [← e]; rfl))
  have hw2 : IntKind.i64.wrap ((p : Int) + 1 - 1) = (p : Int) := by simp only [IntKind.wrap, IntKind.bits, IntKind.signed]; simp; omega
  have hp0 : (0 : Int) ≤ (p : Int) := by omega
  rw [hw]
  clear hw q0 q1 q2 f1 f2 hc HR
  have q0 := HR1.out.blk.cell 0
  have q1 := HR1.out.blk.cell 1
  have q2 := HR1.out.blk.cell 2
  simp only [List.getElem?_toArray, List.getElem?_cons_zero, List.getElem?_cons_succ] at q0 q1 q2
  have f1 := HR1.out.blk.free 1
  have f2 := HR1.out.blk.free 2
  go_wp2_with fail
  go_quiet (fail)
  go_wp2
  go_ret
  exact ⟨rfl, HR1.out.kept ((Chg.refl w1 nob).drewN _), HC.out.drewN _⟩
set_option maxRecDepth 100000 in
theorem byte_no (w : World) (g : Nat) (u : Value) (B : List Int) (p : Nat) (e : Int) (h : RdrR w g u B p e) (hp : p = B.length) :
    Calls Try.prog 49 #[ptr g] w fun e' w' => e' = stopE 3 ∧ Chg w w' nob := by
  obtain ⟨a, c, rfl, _⟩ := h.own.form
  have HR := Lib.hid h
  have hpe : ((p : Int) == (B.length : Int)) = true := by simp; omega
  clear h
  have q0 := HR.out.blk.cell 0
  have q1 := HR.out.blk.cell 1
  have q2 := HR.out.blk.cell 2
  simp only [List.getElem?_toArray, List.getElem?_cons_zero, List.getElem?_cons_succ] at q0 q1 q2
  have f1 := HR.out.blk.free 1
  have f2 := HR.out.blk.free 2
  go_enter Try.func49, Try.ntmps49
  go_wp2_with fail
  go_quiet (fail)
  go_wp2
  exact ⟨rfl, rfl, (Chg.refl w nob).drewN _⟩
theorem or_step {acc x i : Nat} (h : acc < 2 ^ (7 * i)) (ha : acc < 18446744073709551616) (hx : x * 2 ^ (7 * i) < 18446744073709551616) : bits .or .u64 (acc : Int) ((x * 2 ^ (7 * i) : Nat) : Int) = ((acc + x * 2 ^ (7 * i) : Nat) : Int) := by
  rw [bits_or_u64_nat acc _ ha hx, Nat.or_comm, Nat.mul_comm, ← Nat.two_pow_add_eq_or_of_lt h, Nat.add_comm]
set_option maxRecDepth 100000 in
theorem clear_high : ∀ k : Fin 256, bits .andNot .u8 ((k.val : Nat) : Int) 128 = ((k.val % 128 : Nat) : Int) := by decide
theorem and_not {c : Int} (h : 0 ≤ c ∧ c ≤ 255) : bits .andNot .u8 c 128 = ((c.toNat % 128 : Nat) : Int) := by
  have h1 := clear_high ⟨c.toNat, by omega⟩
  simp only at h1
  rwa [Int.toNat_of_nonneg h.1] at h1
set_option maxRecDepth 100000 in
theorem num_any (w : World) (g : Nat) (u : Value) (B : List Int) (p : Nat) (e : Int) (h : RdrR w g u B p e) (R : Int × Nat × Nat) (hR : numP (B.drop p) = R) :
    Calls Try.prog 48 #[ptr g] w fun e' w' => Chg w w' (fun k => k = g) ∧ ∃ q, RdrR w' g u B q e ∧ ((R.1 = 0 ∧ e' = .returned (.int .u64 R.2.1) ∧ q = p + R.2.2) ∨ (R.1 ≠ 0 ∧ e' = stopE R.1)) := by
  have HR := Lib.hid h
  have HB := Lib.hid hR
  clear h hR
  go_enter Try.func48, Try.ntmps48
  go_wp2_with fail
  go_loopw [3, 4, 5, 6] (fun nv _ _ iv wr => ∃ (i acc : Nat), i ≤ 10 ∧ nv = .int .u64 acc ∧ iv = .int .i64 i ∧ Hid (acc < 2 ^ (7 * i) ∧ acc < 18446744073709551616) ∧ Hid (numG (10 - i) i acc (B.drop (p + i)) = R) ∧ Hid (RdrR wr g u B (p + i) e) ∧ Hid (Chg w wr (fun k => k = g))) (fun _ _ _ iv _ => 10 - (intOf iv).toNat)
  case atStart => exact ⟨0, 0, by omega, rfl, rfl, Lib.hid (by decide), HB, HR, Lib.hid (Chg.refl _ _)⟩
  case round =>
    obtain ⟨i, acc, hi, rfl, rfl, HA, HG, HR1, HC⟩ := hrel
    clear HR HB
    by_cases hi10 : i < 10
    · have hii : (i : Int) < 10 := by omega
      have hi0 : (0 : Int) ≤ (i : Int) := by omega
      obtain ⟨f, hf⟩ : ∃ f, 10 - i = f + 1 := ⟨9 - i, by omega⟩
      by_cases hp : p + i < B.length
      · obtain ⟨c, hc⟩ : ∃ c : Nat, B.getD (p + i) 0 = (c : Int) ∧ c ≤ 255 := by
          have hb := HR1.out.byte B[p + i] (List.getElem_mem hp)
          refine ⟨(B[p + i]).toNat, ?_, by omega⟩
          rw [List.getD, List.getElem?_eq_getElem hp, Option.getD_some]
          omega
        obtain ⟨hc, hcb⟩ := hc
        have hd : B.drop (p + i) = (c : Int) :: B.drop (p + (i + 1)) := by
          rw [List.drop_eq_getElem_cons hp, ← hc, List.getD, List.getElem?_eq_getElem hp]
          rfl
        have hg := HG.out
        rw [hf, hd, numG, show ((c : Int)).toNat = c from Int.toNat_natCast c] at hg
        have hbk := byte_ok wr g u B (p + i) e HR1.out hp
        rw [hc] at hbk
        have HBK := Lib.hid hbk
        have hci : (0 : Int) ≤ (c : Int) := by omega
        have HAN : bits .andNot .u8 (c : Int) 128 = ((c % 128 : Nat) : Int) := by
          have h1 := and_not (c := (c : Int)) (by omega)
          rwa [Int.toNat_natCast] at h1
        have HF := Lib.hid hf
        clear hbk hd hc HG hf
        by_cases hbad : (i = 9 ∧ 1 < (c : Int)) ∨ ((c : Int) = 0 ∧ 0 < i)
        · rw [if_pos hbad] at hg
          have HB2 := Lib.hid hg
          clear hg
          rcases hbad with ⟨h9, h1c⟩ | ⟨h0c, hip⟩
          · have h9' : ((i : Int) == 9) = true := by simp; omega
            clear h9
            go_wp2_with fail
            go_at_call 49
            refine HBK.out.mono ?_
            rintro e' w2 ⟨rfl, hr2, hc2⟩
            have HC2 : Hid (Chg w w2 (fun k => k = g)) := Lib.hid (HC.out.trans hc2 (fun _ _ h => h))
            have HR2 := Lib.hid hr2
            clear hr2 hc2 HBK HR1 HC
            go_wp2
            all_goals (
              have hr := HB2.out
              refine ⟨rfl, HC2.out, _, HR2.out, .inr ⟨?_, ?_⟩⟩
              · rw [← hr]; decide
              · rw [← hr])
          · have h0' : ((c : Int) == 0) = true := by simpa using h0c
            have hc1 : ¬ (1 : Int) < (c : Int) := by omega
            have hip' : (0 : Int) < (i : Int) := by omega
            clear h0c
            go_wp2_with fail
            go_at_call 49
            refine HBK.out.mono ?_
            rintro e' w2 ⟨rfl, hr2, hc2⟩
            have HC2 : Hid (Chg w w2 (fun k => k = g)) := Lib.hid (HC.out.trans hc2 (fun _ _ h => h))
            have HR2 := Lib.hid hr2
            clear hr2 hc2 HBK HR1 HC
            go_wp2
            all_goals (
              have hr := HB2.out
              refine ⟨rfl, HC2.out, _, HR2.out, .inr ⟨?_, ?_⟩⟩
              · rw [← hr]; decide
              · rw [← hr])
        · rw [if_neg hbad] at hg
          have hx2 : c % 128 * 2 ^ (7 * i) < 18446744073709551616 := by
            by_cases h9 : i = 9
            · have hc1 : c ≤ 1 := by omega
              subst h9
              have : c % 128 ≤ 1 := by omega
              have h63 : c % 128 * 2 ^ (7 * 9) ≤ 1 * 2 ^ (7 * 9) := Nat.mul_le_mul_right _ this
              exact Nat.lt_of_le_of_lt h63 (by decide)
            · have h1 : c % 128 < 128 := Nat.mod_lt _ (by decide)
              have h2 : 2 ^ (7 * i) ≤ 2 ^ 56 := Nat.pow_le_pow_right (by decide) (by omega)
              have h3 : c % 128 * 2 ^ (7 * i) ≤ 127 * 2 ^ 56 := Nat.mul_le_mul (by omega) h2
              exact Nat.lt_of_le_of_lt h3 (by decide)
          obtain ⟨x, hx⟩ : ∃ x : Nat, acc + c % 128 * 2 ^ (7 * i) = x := ⟨_, rfl⟩
          have hval : bits .or .u64 (acc : Int) (IntKind.u64.wrap ((c : Int) % 128 * 2 ^ (7 * i))) = (x : Int) := by
            have h1 := or_step HA.out.1 HA.out.2 hx2
            rw [hx] at h1
            rw [← h1, show (c : Int) % 128 * 2 ^ (7 * i) = ((c % 128 * 2 ^ (7 * i) : Nat) : Int) by simp]
            congr 1
            exact wraps_u64 _ (by omega) (by omega)
          have HX2 := Lib.hid hx2
          have hi9 : ¬ ((i : Int) = 9 ∧ (1 : Int) < (c : Int)) := fun h => hbad (.inl ⟨by omega, h.2⟩)
          have hc0 : ¬ ((c : Int) = 0 ∧ (0 : Int) < (i : Int)) := fun h => hbad (.inr ⟨h.1, by omega⟩)
          have HI9 := Lib.hid hi9
          have HC0 := Lib.hid hc0
          clear hx2 hi9 hc0 hbad
          by_cases hlt : (c : Int) < 128
          · rw [if_pos hlt] at hg
            have hm : c % 128 = c := Nat.mod_eq_of_lt (by omega)
            rw [hm] at hx
            rw [hx] at hg
            have HB2 := Lib.hid hg
            have HXX := Lib.hid hx
            clear hg hm hx
            rcases (show ((i : Int) = 9 ∧ (c : Int) ≤ 1 ∧ (c : Int) ≠ 0) ∨ ((i : Int) ≠ 9 ∧ (c : Int) ≠ 0) ∨ ((i : Int) ≠ 9 ∧ (c : Int) = 0 ∧ (i : Int) = 0) by have h1 := HI9.out; have h2 := HC0.out; omega) with ⟨j1, j2, j3⟩ | ⟨j1, j3⟩ | ⟨j1, j3, j4⟩
            · have j1' : ((i : Int) == 9) = true := by simpa using j1
              have j3' : ((c : Int) == 0) = false := by simpa using j3
              clear j1 j3
              go_wp2_with fail
              go_at_call 49
              refine HBK.out.mono ?_
              rintro e' w2 ⟨rfl, hr2, hc2⟩
              have HC2 : Hid (Chg w w2 (fun k => k = g)) := Lib.hid (HC.out.trans hc2 (fun _ _ h => h))
              have HR2 := Lib.hid hr2
              clear hr2 hc2 HBK HR1 HC
              go_wp2
              go_ret
              have hr := HB2.out
              exact ⟨HC2.out, _, HR2.out, .inl ⟨by rw [← hr], by rw [← hr]; rfl, by rw [← hr]; (show p + i + 1 = p + (i + 1)); omega⟩⟩
            · have j1' : ((i : Int) == 9) = false := by simpa using j1
              have j3' : ((c : Int) == 0) = false := by simpa using j3
              clear j1 j3
              go_wp2_with fail
              go_at_call 49
              refine HBK.out.mono ?_
              rintro e' w2 ⟨rfl, hr2, hc2⟩
              have HC2 : Hid (Chg w w2 (fun k => k = g)) := Lib.hid (HC.out.trans hc2 (fun _ _ h => h))
              have HR2 := Lib.hid hr2
              clear hr2 hc2 HBK HR1 HC
              go_wp2
              go_ret
              have hr := HB2.out
              exact ⟨HC2.out, _, HR2.out, .inl ⟨by rw [← hr], by rw [← hr]; rfl, by rw [← hr]; (show p + i + 1 = p + (i + 1)); omega⟩⟩
            · have j1' : ((i : Int) == 9) = false := by simpa using j1
              have j3' : ((c : Int) == 0) = true := by simpa using j3
              have j4' : ¬ (0 : Int) < (i : Int) := by omega
              clear j1 j3 j4
              go_wp2_with fail
              go_at_call 49
              refine HBK.out.mono ?_
              rintro e' w2 ⟨rfl, hr2, hc2⟩
              have HC2 : Hid (Chg w w2 (fun k => k = g)) := Lib.hid (HC.out.trans hc2 (fun _ _ h => h))
              have HR2 := Lib.hid hr2
              clear hr2 hc2 HBK HR1 HC
              go_wp2
              go_ret
              have hr := HB2.out
              exact ⟨HC2.out, _, HR2.out, .inl ⟨by rw [← hr], by rw [← hr]; rfl, by rw [← hr]; (show p + i + 1 = p + (i + 1)); omega⟩⟩
          · rw [if_neg hlt] at hg
            have hlt' : ¬ (c : Int) < 128 := hlt
            have j1' : ((i : Int) == 9) = false := by have := HI9.out; simp; omega
            have j3' : ((c : Int) == 0) = false := by simp; omega
            have hm : c % 128 = c - 128 := by omega
            rw [← hm, hx] at hg
            have HB2 := Lib.hid hg
            have HX3 : Hid (x < 2 ^ (7 * (i + 1)) ∧ x < 18446744073709551616) := Lib.hid (by
              have i8 : i ≤ 8 := by have := HI9.out; omega
              have e : 2 ^ (7 * (i + 1)) = 128 * 2 ^ (7 * i) := by rw [show 7 * (i + 1) = 7 + 7 * i by omega, Nat.pow_add]
              have h1 : c % 128 * 2 ^ (7 * i) ≤ 127 * 2 ^ (7 * i) := Nat.mul_le_mul_right _ (by omega)
              have h2 := HA.out.1
              have h3 : x < 2 ^ (7 * (i + 1)) := by rw [← hx, e]; omega
              have h4 : 2 ^ (7 * (i + 1)) ≤ 2 ^ 63 := Nat.pow_le_pow_right (by decide) (by omega)
              exact ⟨h3, Nat.lt_of_lt_of_le h3 (Nat.le_trans h4 (by decide))⟩)
            clear hg hm hx hlt
            go_wp2_with fail
            go_at_call 49
            refine HBK.out.mono ?_
            rintro e' w2 ⟨rfl, hr2, hc2⟩
            have HC2 : Hid (Chg w w2 (fun k => k = g)) := Lib.hid (HC.out.trans hc2 (fun _ _ h => h))
            have HR2 := Lib.hid hr2
            clear hr2 hc2 HBK HR1 HC
            go_wp2
            go_roundw
            case rel => exact ⟨i + 1, x, by omega, rfl, by go_num, HX3, Lib.hid (by have h := HB2.out; rwa [show f = 10 - (i + 1) by have := HF.out; omega] at h), HR2, HC2⟩
            case measure => simp [intOf]; omega
      · have hpe : p + i = B.length := by have := HR1.out.le; omega
        have HBK := Lib.hid (byte_no wr g u B (p + i) e HR1.out hpe)
        have HB2 : Hid ((3, 0, 0) = R) := Lib.hid (by
          have hg := HG.out
          rw [hf, List.drop_eq_nil_of_le (by omega), numG] at hg
          exact hg)
        clear hf hpe HG
        go_wp2_with fail
        go_at_call 49
        refine HBK.out.mono ?_
        rintro e' w2 ⟨rfl, hc2⟩
        have hr2 := HR1.out.kept hc2
        replace hc2 : Chg wr w2 (fun k => k = g) := hc2.mono (fun _ _ h => h.elim)
        have HC2 : Hid (Chg w w2 (fun k => k = g)) := Lib.hid (HC.out.trans hc2 (fun _ _ h => h))
        have HR2 := Lib.hid hr2
        clear hr2 hc2 HBK HR1 HC
        go_wp2
        all_goals (
          have hr := HB2.out
          refine ⟨rfl, HC2.out, _, HR2.out, .inr ⟨?_, ?_⟩⟩
          · rw [← hr]; decide
          · rw [← hr])
    · obtain rfl : i = 10 := by omega
      have HB2 : Hid ((2, 0, 0) = R) := Lib.hid HG.out
      have hr2 := HR1.out
      have hc2 : Chg wr wr (fun k => k = g) := Chg.refl _ _
      rename World => w2
      have HC2 := HC
      have HR2 := HR1
      go_wp2
      have hr := HB2.out
      refine ⟨rfl, HC2.out, _, HR2.out, .inr ⟨?_, ?_⟩⟩
      · rw [← hr]; decide
      · rw [← hr]
end Go.Proofs.Ytmekakecdgblaaa
