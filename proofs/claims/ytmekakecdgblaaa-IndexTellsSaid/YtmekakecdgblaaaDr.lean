
/-
  The document's reader (tikref2): Get, and Num over it.
-/
import Derived.Test.YtmekakecdgblaaaRdr3
namespace Go.Proofs.Ytmekakecdgblaaa
open Go.RowKit
set_option linter.unusedVariables false
set_option linter.unusedSimpArgs false

/-- The document's reader of the bytes B that stands at p; e: why it failed. -/
structure RdD (w : World) (g : Nat) (u : Value) (B : List Int) (p : Nat) (e : Int) : Prop where
  blk : Blk w g 54 #[u, .int .i64 p, .int .i64 e]
  by_ : By w u B
  le : p ≤ B.length
  big : B.length ≤ 140737488351232
section
variable {w w' : World} {g : Nat} {u : Value} {B : List Int} {p : Nat} {e : Int}
theorem RdD.apart (h : RdD w g u B p e) (hB : B ≠ []) : ∀ k, blkOf u k → k ≠ g := by
  intro k hk hg
  subst hg
  obtain ⟨g', o, cap, rfl, _, hc⟩ := h.by_.at0 (List.length_pos_iff.2 hB)
  cases hk
  have h0 := hc 0 (List.length_pos_iff.2 hB)
  rw [h.blk.cell] at h0
  rcases (show o + 0 = 0 ∨ o + 0 = 1 ∨ o + 0 = 2 ∨ 3 ≤ o + 0 by omega) with h1 | h1 | h1 | h1
  · rw [h1] at h0; cases h0
  · rw [h1] at h0; cases h0
  · rw [h1] at h0; cases h0
  · rw [Array.getElem?_eq_none (by simpa using h1)] at h0; cases h0
theorem RdD.kept (h : RdD w g u B p e) (hc : Chg w w' nob) : RdD w' g u B p e := ⟨h.blk.kept hc id, h.by_.kept hc, h.le, h.big⟩
theorem RdD.set1 (h : RdD w g u B p e) (q : Nat) (hq : q ≤ B.length) : RdD (w.setCell ⟨g, 1, none⟩ (.int .i64 q)) g u B q e :=
  ⟨h.blk.set 1 _, h.by_.keptN (F := fun k => k = g) (Chg.setCell (F := fun k => k = g) (Chg.refl w _) (p := ⟨g, 1, none⟩) (.inl rfl) _) (fun hB k hk => h.apart hB k hk), hq, h.big⟩
theorem RdD.set2 (h : RdD w g u B p e) (q : Int) : RdD (w.setCell ⟨g, 2, none⟩ (.int .i64 q)) g u B p q :=
  ⟨h.blk.set 2 _, h.by_.keptN (F := fun k => k = g) (Chg.setCell (F := fun k => k = g) (Chg.refl w _) (p := ⟨g, 2, none⟩) (.inl rfl) _) (fun hB k hk => h.apart hB k hk), h.le, h.big⟩
end
set_option maxRecDepth 100000 in
theorem dleft_any (w : World) (g : Nat) (u : Value) (B : List Int) (p : Nat) (e : Int) (h : RdD w g u B p e) : Calls Try.prog 26 #[ptr g] w fun e' w' => e' = .returned (.int .i64 ((B.length : Int) - (p : Int))) ∧ Chg w w' nob := by
  obtain ⟨a, c, rfl, _⟩ := h.by_.form
  have HR := Lib.hid h
  have h1 := h.le
  have h2 := h.big
  have hw1 : IntKind.i64.wrap ((B.length : Int) - (p : Int)) = (B.length : Int) - (p : Int) := by simp only [IntKind.wrap, IntKind.bits, IntKind.signed]; simp; omega
  clear h
  have q0 := HR.out.blk.cell 0
  have q1 := HR.out.blk.cell 1
  have q2 := HR.out.blk.cell 2
  simp only [List.getElem?_toArray, List.getElem?_cons_zero, List.getElem?_cons_succ] at q0 q1 q2
  have f1 := HR.out.blk.free 1
  have f2 := HR.out.blk.free 2
  go_enter Try.func26, Try.ntmps26
  go_wp2_with fail
  go_quiet (fail)
  go_wp2
  go_ret
  exact ⟨rfl, (Chg.refl w nob).drewN _⟩
/-- Why all was not read. -/
def endE (B : List Int) (p : Nat) (e : Int) : Int := if e = 0 ∧ p < B.length then 4 else e
set_option maxRecDepth 100000 in
set_option maxHeartbeats 2000000 in
theorem dget_any (w : World) (a : Option Addr) (cap : Nat) (B : List Int) (p : Nat) (hb : By w (.slice a B.length cap) B) (hp : p ≤ B.length) (hbig : B.length ≤ 140737488351232) (R : Int × Nat × Nat) (hR : numP (B.drop p) = R) :
    Calls Try.prog 41 #[.slice a B.length cap, .int .i64 p] w fun e' w' => w = w' ∧ ((R.1 = 0 ∧ e' = .returned (.tuple #[.int .u64 R.2.1, .int .i64 (p + R.2.2 : Nat), .int .i64 0])) ∨ (R.1 ≠ 0 ∧ e' = .returned (.tuple #[.int .u64 0, .int .i64 0, .int .i64 R.1]))) := by
  have HB := Lib.hid hR
  have HY := Lib.hid hb
  clear hb hR
  have hp0 : ¬ ((p : Int) < 0) := by omega
  have hp1 : ¬ ((B.length : Int) < (p : Int)) := by omega
  go_enter Try.func41, Try.ntmps41
  go_wp2_with fail
  go_loopw [7, 8] (fun nv iv wr => ∃ (i acc : Nat), i ≤ 10 ∧ nv = .int .u64 acc ∧ iv = .int .i64 i ∧ Hid (acc < 2 ^ (7 * i) ∧ acc < 18446744073709551616) ∧ Hid (numG (10 - i) i acc (B.drop (p + i)) = R) ∧ wr = w) (fun _ iv _ => 10 - (intOf iv).toNat)
  case atStart => exact ⟨0, 0, by omega, rfl, rfl, Lib.hid (by decide), HB, rfl⟩
  case round =>
    obtain ⟨i, acc, hi, rfl, rfl, HA, HG, rfl⟩ := hrel
    clear HB
    by_cases hi10 : i < 10
    · have hii : (i : Int) < 10 := by omega
      have hi0 : (0 : Int) ≤ (i : Int) := by omega
      obtain ⟨f, hf⟩ : ∃ f, 10 - i = f + 1 := ⟨9 - i, by omega⟩
      have hw1 : IntKind.i64.wrap ((p : Int) + (i : Int)) = ((p + i : Nat) : Int) := by simp only [IntKind.wrap, IntKind.bits, IntKind.signed]; simp; omega
      by_cases hpl : p + i < B.length
      · have hpi : ¬ ((B.length : Int) ≤ ((p + i : Nat) : Int)) := by omega
        obtain ⟨gb, o, rfl, hcell⟩ := HY.out.cell hpl
        obtain ⟨c, hc, hcb⟩ : ∃ c : Nat, B.getD (p + i) 0 = (c : Int) ∧ c ≤ 255 := by
          have hb := HY.out.byte B[p + i] (List.getElem_mem hpl)
          refine ⟨(B[p + i]).toNat, ?_, by omega⟩
          rw [List.getD, List.getElem?_eq_getElem hpl, Option.getD_some]
          omega
        have hd : B.drop (p + i) = (c : Int) :: B.drop (p + (i + 1)) := by
          rw [List.drop_eq_getElem_cons hpl, ← hc, List.getD, List.getElem?_eq_getElem hpl]
          rfl
        have hg := HG.out
        rw [hf, hd, numG, show ((c : Int)).toNat = c from Int.toNat_natCast c] at hg
        rw [hc] at hcell
        have hci : (0 : Int) ≤ (c : Int) := by omega
        have hci2 : (c : Int) ≤ 255 := by omega
        have HAN : bits .and .u64 (c : Int) 127 = ((c % 128 : Nat) : Int) := by rw [u64_and127 _ (by omega) (by omega)]; omega
        have HF := Lib.hid hf
        have hpi0 : (0 : Int) ≤ ((p + i : Nat) : Int) := by omega
        have hpi1 : ((p + i : Nat) : Int) < (B.length : Int) := by omega
        clear hd hc HG hf
        have hx2 : ¬ ((i = 9 ∧ 1 < (c : Int)) ∨ ((c : Int) = 0 ∧ 0 < i)) → c % 128 * 2 ^ (7 * i) < 18446744073709551616 := by
          intro hbad
          by_cases h9 : i = 9
          · have hc1 : c ≤ 1 := by omega
            subst h9
            have : c % 128 ≤ 1 := by omega
            have h63 : c % 128 * 2 ^ (7 * 9) ≤ 1 * 2 ^ (7 * 9) := Nat.mul_le_mul_right _ this
            exact Nat.lt_of_le_of_lt h63 (by decide)
          · have h1 : c % 128 < 128 := Nat.mod_lt _ (by decide)
            have h2 : 2 ^ (7 * i) ≤ 2 ^ 56 := Nat.pow_le_pow_right (by decide) (by omega)
            have h3 : c % 128 * 2 ^ (7 * i) ≤ 127 * 2 ^ 56 := Nat.mul_le_mul (by omega) h2
            exact Nat.lt_of_le_of_lt h3 (by decide)
        have hval : c % 128 * 2 ^ (7 * i) < 18446744073709551616 → ∀ x : Nat, acc + c % 128 * 2 ^ (7 * i) = x → bits .or .u64 (acc : Int) (IntKind.u64.wrap ((c : Int) % 128 * 2 ^ (7 * i))) = (x : Int) := by
          intro hx2 x hx
          have h1 := or_step HA.out.1 HA.out.2 hx2
          rw [hx] at h1
          rw [← h1, show (c : Int) % 128 * 2 ^ (7 * i) = ((c % 128 * 2 ^ (7 * i) : Nat) : Int) by simp]
          congr 1
          exact wraps_u64 _ (by omega) (by omega)
        have HV := Lib.hid hval
        have HX2 := Lib.hid hx2
        have HG := Lib.hid hg
        clear hval hx2 hg
        by_cases h9 : i = 9
        · have h9' : ((i : Int) == 9) = true := by simp; omega
          by_cases hc1 : 1 < c
          · have hci1 : (1 : Int) < (c : Int) := by omega
            have hg := HG.out
            rw [if_pos (.inl ⟨h9, hci1⟩)] at hg
            have HB2 := Lib.hid hg
            clear hg h9
            go_wp2
            go_ret3
            have hr := HB2.out
            exact ⟨rfl, .inr ⟨by rw [← hr]; decide, by rw [← hr]; rfl⟩⟩
          · have hci1 : ¬ (1 : Int) < (c : Int) := by omega
            have hlt : (c : Int) < 128 := by omega
            by_cases h0 : c = 0
            · have h0' : ((c : Int) == 0) = true := by simp; omega
              have hip : (0 : Int) < (i : Int) := by omega
              have hx := HX2.out
              have hg := HG.out
              rw [if_pos (.inr ⟨by omega, by omega⟩)] at hg
              clear hx
              obtain ⟨y, hy⟩ : ∃ y, bits .or .u64 (acc : Int) (IntKind.u64.wrap ((c : Int) % 128 * 2 ^ (7 * i))) = y := ⟨_, rfl⟩
              have HB2 := Lib.hid hg
              clear hg h9
              go_wp2
              go_ret3
              have hr := HB2.out
              exact ⟨rfl, .inr ⟨by rw [← hr]; decide, by rw [← hr]; rfl⟩⟩
            · have h0' : ((c : Int) == 0) = false := by simp; omega
              have hng : ¬ ((i = 9 ∧ 1 < (c : Int)) ∨ ((c : Int) = 0 ∧ 0 < i)) := by omega
              obtain ⟨x, hx⟩ : ∃ x : Nat, acc + c % 128 * 2 ^ (7 * i) = x := ⟨_, rfl⟩
              have hvv := HV.out (HX2.out hng) x hx
              have hg := HG.out
              rw [if_neg hng, if_pos hlt] at hg
              try rw [hx] at hv0
              rw [Nat.mod_eq_of_lt (by omega)] at hx
              rw [hx] at hg
              have HB2 := Lib.hid hg
              clear hg hx hng h9
              go_wp2
              go_ret3
              have hr := HB2.out
              exact ⟨rfl, .inl ⟨by rw [← hr], by rw [← hr]; (show Ending.returned (.tuple #[.int .u64 x, .int .i64 _, .int .i64 0]) = .returned (.tuple #[.int .u64 x, .int .i64 _, .int .i64 0])); congr 4; try omega⟩⟩
        · have h9' : ((i : Int) == 9) = false := by simp; omega
          by_cases hlt : (c : Int) < 128
          · by_cases h0 : c = 0
            · have h0' : ((c : Int) == 0) = true := by simp; omega
              by_cases hi : 0 < i
              · have hip : (0 : Int) < (i : Int) := by omega
                have hg := HG.out
                rw [if_pos (.inr ⟨by omega, by omega⟩)] at hg
                obtain ⟨y, hy⟩ : ∃ y, bits .or .u64 (acc : Int) (IntKind.u64.wrap ((c : Int) % 128 * 2 ^ (7 * i))) = y := ⟨_, rfl⟩
                have HB2 := Lib.hid hg
                clear hg h9
                go_wp2
                go_ret3
                have hr := HB2.out
                exact ⟨rfl, .inr ⟨by rw [← hr]; decide, by rw [← hr]; rfl⟩⟩
              · have hip : ¬ (0 : Int) < (i : Int) := by omega
                have hv0 : bits .or .u64 (acc : Int) (IntKind.u64.wrap (bits .and .u64 0 127 * 2 ^ (7 * i))) = (acc + c % 128 * 2 ^ (7 * i) : Nat) := by
                  have h := HV.out (HX2.out (by omega)) _ rfl
                  subst h0
                  exact h
                have hng : ¬ ((i = 9 ∧ 1 < (c : Int)) ∨ ((c : Int) = 0 ∧ 0 < i)) := by omega
                obtain ⟨x, hx⟩ : ∃ x : Nat, acc + c % 128 * 2 ^ (7 * i) = x := ⟨_, rfl⟩
                have hvv := HV.out (HX2.out hng) x hx
                have hg := HG.out
                rw [if_neg hng, if_pos hlt] at hg
                try rw [hx] at hv0
                rw [Nat.mod_eq_of_lt (by omega)] at hx
                rw [hx] at hg
                have HB2 := Lib.hid hg
                clear hg hx hng h9
                go_wp2
                go_ret3
                have hr := HB2.out
                exact ⟨rfl, .inl ⟨by rw [← hr], by rw [← hr]; (show Ending.returned (.tuple #[.int .u64 x, .int .i64 _, .int .i64 0]) = .returned (.tuple #[.int .u64 x, .int .i64 _, .int .i64 0])); congr 4; try omega⟩⟩
            · have h0' : ((c : Int) == 0) = false := by simp; omega
              have hng : ¬ ((i = 9 ∧ 1 < (c : Int)) ∨ ((c : Int) = 0 ∧ 0 < i)) := by omega
              obtain ⟨x, hx⟩ : ∃ x : Nat, acc + c % 128 * 2 ^ (7 * i) = x := ⟨_, rfl⟩
              have hvv := HV.out (HX2.out hng) x hx
              have hg := HG.out
              rw [if_neg hng, if_pos hlt] at hg
              try rw [hx] at hv0
              rw [Nat.mod_eq_of_lt (by omega)] at hx
              rw [hx] at hg
              have HB2 := Lib.hid hg
              clear hg hx hng h9
              go_wp2
              go_ret3
              have hr := HB2.out
              exact ⟨rfl, .inl ⟨by rw [← hr], by rw [← hr]; (show Ending.returned (.tuple #[.int .u64 x, .int .i64 _, .int .i64 0]) = .returned (.tuple #[.int .u64 x, .int .i64 _, .int .i64 0])); congr 4; try omega⟩⟩
          · have hng : ¬ ((i = 9 ∧ 1 < (c : Int)) ∨ ((c : Int) = 0 ∧ 0 < i)) := by omega
            obtain ⟨x, hx⟩ : ∃ x : Nat, acc + c % 128 * 2 ^ (7 * i) = x := ⟨_, rfl⟩
            have hvv := HV.out (HX2.out hng) x hx
            have hg := HG.out
            rw [if_neg hng, if_neg hlt, show c - 128 = c % 128 by omega, hx] at hg
            have HB2 := Lib.hid hg
            have HX3 : Hid (x < 2 ^ (7 * (i + 1)) ∧ x < 18446744073709551616) := Lib.hid (by
              have i8 : i ≤ 8 := by omega
              have e : 2 ^ (7 * (i + 1)) = 128 * 2 ^ (7 * i) := by rw [show 7 * (i + 1) = 7 + 7 * i by omega, Nat.pow_add]
              have h1 : c % 128 * 2 ^ (7 * i) ≤ 127 * 2 ^ (7 * i) := Nat.mul_le_mul_right _ (by omega)
              have h2 := HA.out.1
              have h3 : x < 2 ^ (7 * (i + 1)) := by rw [← hx, e]; omega
              have h4 : 2 ^ (7 * (i + 1)) ≤ 2 ^ 63 := Nat.pow_le_pow_right (by decide) (by omega)
              exact ⟨h3, Nat.lt_of_lt_of_le h3 (Nat.le_trans h4 (by decide))⟩)
            clear hg hx hng h9 HV HX2 HG
            go_wp2
            go_roundw
            case rel => exact ⟨i + 1, x, by omega, rfl, by go_num, HX3, Lib.hid (by have h := HB2.out; rwa [show f = 10 - (i + 1) by have := HF.out; omega] at h), trivial⟩
            case measure => simp [intOf]; omega
      · have hpi : ((B.length : Int) ≤ ((p + i : Nat) : Int)) := by omega
        have HB2 : Hid ((3, 0, 0) = R) := Lib.hid (by
          have hg := HG.out
          rw [hf, List.drop_eq_nil_of_le (by omega), numG] at hg
          exact hg)
        clear hf HG
        go_wp2
        go_ret3
        have hr := HB2.out
        exact ⟨rfl, .inr ⟨by rw [← hr]; decide, by rw [← hr]; rfl⟩⟩
    · obtain rfl : i = 10 := by omega
      have HB2 : Hid ((2, 0, 0) = R) := Lib.hid HG.out
      go_wp2
      go_ret3
      have hr := HB2.out
      exact ⟨rfl, .inr ⟨by rw [← hr]; decide, by rw [← hr]; rfl⟩⟩
/-- What a reading of a number comes to. -/
structure RdNumD (w w' : World) (g : Nat) (u : Value) (B : List Int) (p : Nat) (e : Int) (most : Nat) (n : Nat) (q : Nat) (e' : Int) : Prop where
  r : RdD w' g u B q e'
  c : Chg w w' (fun k => k = g)
  s : (e' = 0 ∧ e = 0 ∧ numM most (B.drop p) = some (n, B.drop q)) ∨ (e' ≠ 0 ∧ n = 0 ∧ (e ≠ 0 ∨ numM most (B.drop p) = none))
  stay : e' ≠ 0 → q = p
set_option maxRecDepth 100000 in
set_option maxHeartbeats 2000000 in
theorem dnum_any (w : World) (g : Nat) (u : Value) (B : List Int) (p : Nat) (e : Int) (h : RdD w g u B p e) (most : Nat) :
    Calls Try.prog 28 #[ptr g, .int .u64 most] w fun e' w' => ∃ n q er, e' = .returned (.int .u64 (n : Nat)) ∧ RdNumD w w' g u B p e most n q er := by
  have HR := Lib.hid h
  obtain ⟨a, c, rfl, _⟩ := h.by_.form
  have hle := h.le
  clear h
  have q0 := HR.out.blk.cell 0
  have q1 := HR.out.blk.cell 1
  have q2 := HR.out.blk.cell 2
  simp only [List.getElem?_toArray, List.getElem?_cons_zero, List.getElem?_cons_succ] at q0 q1 q2
  have f1 := HR.out.blk.free 1
  have f2 := HR.out.blk.free 2
  by_cases he : e = 0
  · subst he
    go_enter Try.func28, Try.ntmps28
    go_upto_region 3 with (fail)
    refine wp_one [3, 7] [8] [] [0, 1, 2, 3, 4, 5, 6, 7, 8, 9, 10, 11, 12, 13, 14, 15] rfl (by kernel_rfl) (fun _ _ _ _ _ h => h) ?_; simp only [List.map_cons, List.map_nil, List.getElem?_toArray, List.getElem?_cons_zero, List.getElem?_cons_succ]
    obtain ⟨w1, hw⟩ : ∃ W, World.drew w = W := ⟨_, rfl⟩
    have hck : Chg w w1 nob := by rw [← hw]; exact (Chg.refl w nob).drew
    rw [hw]
    clear hw
    replace HR := Lib.hid (HR.out.kept hck)
    have HC := Lib.hid hck
    clear hck
    clear q0 q1 q2 f1 f2
    have q0 := HR.out.blk.cell 0
    have q1 := HR.out.blk.cell 1
    have q2 := HR.out.blk.cell 2
    simp only [List.getElem?_toArray, List.getElem?_cons_zero, List.getElem?_cons_succ] at q0 q1 q2
    have f1 := HR.out.blk.free 1
    have f2 := HR.out.blk.free 2
    obtain ⟨R, hR⟩ : ∃ R, numP (B.drop p) = R := ⟨_, rfl⟩
    obtain ⟨e1, n1, k1⟩ := R
    have HG := Lib.hid (dget_any w1 a c B p HR.out.by_ hle HR.out.big _ hR)
    (repeat (first | (apply can0; (· rfl); (· rfl); (· (intro w'; first | (go_simp; with_reducible rfl) | (go_simp; done))); simp only [Act.put, List.setIfInBounds_toArray, List.set_cons_zero, List.set_cons_succ]) | (apply can1; (· rfl); (· rfl); (· (first | (go_simp; with_reducible rfl) | (go_simp; done))); simp only [Act.put, List.setIfInBounds_toArray, List.set_cons_zero, List.set_cons_succ]) | (apply canN; (· rfl); (· rfl); simp only [Act.put, List.setIfInBounds_toArray, List.set_cons_zero, List.set_cons_succ]) | (apply canN1; (· rfl); (· rfl); simp only [Act.put, List.setIfInBounds_toArray, List.set_cons_zero, List.set_cons_succ]) | (apply can0; (· rfl); (· (go_simp; done)); (· (intro w'; first | (go_simp; with_reducible rfl) | (go_simp; done))); simp only [Act.put, List.setIfInBounds_toArray, List.set_cons_zero, List.set_cons_succ]) | (apply can1; (· rfl); (· (go_simp; done)); (· (first | (go_simp; with_reducible rfl) | (go_simp; done))); simp only [Act.put, List.setIfInBounds_toArray, List.set_cons_zero, List.set_cons_succ]) | (apply canN; (· rfl); (· (go_simp; done)); simp only [Act.put, List.setIfInBounds_toArray, List.set_cons_zero, List.set_cons_succ]) | (apply canN1; (· rfl); (· (go_simp; done)); simp only [Act.put, List.setIfInBounds_toArray, List.set_cons_zero, List.set_cons_succ])))
    refine canW rfl [] rfl (fun K hK => ?_)
    go_simp
    go_at_call 41
    refine HG.out.mono ?_
    rintro e' w2 ⟨rfl, ⟨h1, rfl⟩ | ⟨h1, rfl⟩⟩
    · simp only at h1
      subst h1
      have hk : p + k1 ≤ B.length := by
        have hm := numG_max 10 0 0 (B.drop p)
        rw [show numG 10 0 0 (B.drop p) = (0, n1, k1) from hR] at hm
        simp only [List.length_drop] at hm
        omega
      obtain ⟨q1', hq⟩ : ∃ q, p + k1 = q := ⟨_, rfl⟩
      (refine hK _ _ (fun u hu => by cases hu) ?_; clear hK K; try simp only [Act.put, List.setIfInBounds_toArray, List.set_cons_zero, List.set_cons_succ])
      (repeat (first | (apply can0; (· rfl); (· rfl); (· (intro w'; first | (go_simp; with_reducible rfl) | (go_simp; done))); simp only [Act.put, List.setIfInBounds_toArray, List.set_cons_zero, List.set_cons_succ]) | (apply can1; (· rfl); (· rfl); (· (first | (go_simp; with_reducible rfl) | (go_simp; done))); simp only [Act.put, List.setIfInBounds_toArray, List.set_cons_zero, List.set_cons_succ]) | (apply canN; (· rfl); (· rfl); simp only [Act.put, List.setIfInBounds_toArray, List.set_cons_zero, List.set_cons_succ]) | (apply canN1; (· rfl); (· rfl); simp only [Act.put, List.setIfInBounds_toArray, List.set_cons_zero, List.set_cons_succ]) | (apply can0; (· rfl); (· (go_simp; done)); (· (intro w'; first | (go_simp; with_reducible rfl) | (go_simp; done))); simp only [Act.put, List.setIfInBounds_toArray, List.set_cons_zero, List.set_cons_succ]) | (apply can1; (· rfl); (· (go_simp; done)); (· (first | (go_simp; with_reducible rfl) | (go_simp; done))); simp only [Act.put, List.setIfInBounds_toArray, List.set_cons_zero, List.set_cons_succ]) | (apply canN; (· rfl); (· (go_simp; done)); simp only [Act.put, List.setIfInBounds_toArray, List.set_cons_zero, List.set_cons_succ]) | (apply canN1; (· rfl); (· (go_simp; done)); simp only [Act.put, List.setIfInBounds_toArray, List.set_cons_zero, List.set_cons_succ])))
      refine canE ?_
      rw [hq] at hk ⊢
      have HDD : Hid (B.drop q1' = (B.drop p).drop k1) := Lib.hid (by rw [List.drop_drop, hq])
      have HRR := Lib.hid hR
      clear hR HG hq
      by_cases hm : n1 ≤ most
      · have hmi : ¬ ((most : Int) < (n1 : Int)) := by omega
        go_wp2
        go_ret
        exact ⟨n1, rfl, q1', 0, HR.out.set1 _ hk, (HC.out.mono (G := fun k => k = g) (fun _ _ h => h.elim)).setCell (p := ⟨g, 1, none⟩) (.inl rfl) _, .inl ⟨rfl, rfl, by
          unfold numM; rw [HRR.out, HDD.out]; exact if_pos ⟨rfl, hm⟩⟩, fun h => absurd rfl h⟩
      · have hmi : (most : Int) < (n1 : Int) := by omega
        go_wp2
        go_ret
        exact ⟨0, p, 1, rfl, HR.out.set2 _, (HC.out.mono (G := fun k => k = g) (fun _ _ h => h.elim)).setCell (p := ⟨g, 2, none⟩) (.inl rfl) _, .inr ⟨by decide, rfl, .inr (by
          unfold numM; rw [HRR.out]; exact if_neg (fun h => hm h.2))⟩, fun _ => rfl⟩
    · simp only at h1
      have h1' : (e1 != 0) = true := by simpa using h1
      have h1'' : (e1 == 0) = false := by simpa using h1
      have H1 := Lib.hid h1
      (refine hK _ _ (fun u hu => by cases hu) ?_; clear hK K; try simp only [Act.put, List.setIfInBounds_toArray, List.set_cons_zero, List.set_cons_succ])
      (repeat (first | (apply can0; (· rfl); (· rfl); (· (intro w'; first | (go_simp; with_reducible rfl) | (go_simp; done))); simp only [Act.put, List.setIfInBounds_toArray, List.set_cons_zero, List.set_cons_succ]) | (apply can1; (· rfl); (· rfl); (· (first | (go_simp; with_reducible rfl) | (go_simp; done))); simp only [Act.put, List.setIfInBounds_toArray, List.set_cons_zero, List.set_cons_succ]) | (apply canN; (· rfl); (· rfl); simp only [Act.put, List.setIfInBounds_toArray, List.set_cons_zero, List.set_cons_succ]) | (apply canN1; (· rfl); (· rfl); simp only [Act.put, List.setIfInBounds_toArray, List.set_cons_zero, List.set_cons_succ]) | (apply can0; (· rfl); (· (go_simp; done)); (· (intro w'; first | (go_simp; with_reducible rfl) | (go_simp; done))); simp only [Act.put, List.setIfInBounds_toArray, List.set_cons_zero, List.set_cons_succ]) | (apply can1; (· rfl); (· (go_simp; done)); (· (first | (go_simp; with_reducible rfl) | (go_simp; done))); simp only [Act.put, List.setIfInBounds_toArray, List.set_cons_zero, List.set_cons_succ]) | (apply canN; (· rfl); (· (go_simp; done)); simp only [Act.put, List.setIfInBounds_toArray, List.set_cons_zero, List.set_cons_succ]) | (apply canN1; (· rfl); (· (go_simp; done)); simp only [Act.put, List.setIfInBounds_toArray, List.set_cons_zero, List.set_cons_succ])))
      refine canE ?_
      have HRR := Lib.hid hR
      clear hR HG h1
      go_wp2
      go_ret
      exact ⟨0, p, e1, rfl, HR.out.set2 _, (HC.out.mono (G := fun k => k = g) (fun _ _ h => h.elim)).setCell (p := ⟨g, 2, none⟩) (.inl rfl) _, .inr ⟨H1.out, rfl, .inr (by
        unfold numM; rw [HRR.out]; exact if_neg (fun h => H1.out h.1))⟩, fun _ => rfl⟩
  · have he' : (e != 0) = true := by simpa using he
    have HE := Lib.hid he
    clear he
    go_enter Try.func28, Try.ntmps28
    go_wp2
    go_ret
    exact ⟨0, p, e, rfl, HR.out, Chg.refl _ _, .inr ⟨HE.out, rfl, .inl HE.out⟩, fun _ => rfl⟩
end Go.Proofs.Ytmekakecdgblaaa
