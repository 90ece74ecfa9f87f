/-
  Chapter 8: a sign of the params; a command's text.
-/
import Derived.Test.YtaficleoimfejaaEsc4
namespace Go.Proofs.Ytaficleoimfejaa
open Go.RowKit
set_option linter.unusedVariables false
set_option linter.unusedSimpArgs false


def partS (s : PS) (r : Int) : PS :=
  if 60 ≤ r then { s with sp := s.sp || s.told || decide (0 < s.inter) || decide (0 < s.priv), priv := r }
  else if 0 < s.inter then { s with sp := true }
  else if r ≤ 57 then digitS s (r - 48) else { s with params := s.params ++ [-1], told := true }
theorem wraps_i32 (x : Int) (h0 : -2147483648 ≤ x) (h1 : x ≤ 2147483647) : IntKind.i32.wrap x = x := by simp [IntKind.wrap, IntKind.bits, IntKind.signed, wrap32]; omega
set_option maxRecDepth 100000 in
set_option maxHeartbeats 4000000 in
theorem part_any {w : World} {p : Nat} {s : PS} {F G : Nat → Prop} (h : PR w p s F G) (hp : s.params ≠ []) (hl : s.params.length ≤ 1000000) (hr : ∀ x ∈ s.params, -1 ≤ x ∧ x ≤ 9999) (r : Int) (h0 : 48 ≤ r) (h1 : r < 64) :
    Calls Try.prog 35 #[.pointer (some ⟨p, 0, none⟩), .int .i32 r] w fun e w' => e = .returned (.tuple #[]) ∧ UP p (partS s r) F G w w' := by
  have H := Lib.hid h
  clear h
  by_cases h2 : 60 ≤ r
  · rw [show partS s r = { s with sp := s.sp || s.told || decide (0 < s.inter) || decide (0 < s.priv), priv := r } by unfold partS; rw [if_pos h2]]
    obtain ⟨st, params, told, priv, inter, sp, text, out⟩ := s
    cases sp with
    | true =>
      obtain ⟨nc0, nc2, nc3, nc4, nc5, nf0, nf2, nf3, nf4, nf5⟩ := H.out.nums
      clear hp hl hr
      go_enter Try.func35, Try.ntmps35
      go_wp2
      go_end0
      exact ⟨rfl, PR.num H.out _ rfl rfl rfl (chg2 _ _ _ _ _ _) (fun vp vt vo hb => (hb.set 5 _).set 3 _)⟩
    | false =>
      cases told with
      | true =>
        obtain ⟨nc0, nc2, nc3, nc4, nc5, nf0, nf2, nf3, nf4, nf5⟩ := H.out.nums
        clear hp hl hr
        go_enter Try.func35, Try.ntmps35
        go_wp2
        go_end0
        exact ⟨rfl, PR.num H.out _ rfl rfl rfl (chg2 _ _ _ _ _ _) (fun vp vt vo hb => (hb.set 5 _).set 3 _)⟩
      | false =>
        by_cases h3 : 0 < inter
        · have e3 : decide (0 < inter) = true := by simpa using h3
          simp only [e3, Bool.false_or, Bool.or_false, Bool.true_or, Bool.or_true]
          clear e3
          obtain ⟨nc0, nc2, nc3, nc4, nc5, nf0, nf2, nf3, nf4, nf5⟩ := H.out.nums
          clear hp hl hr
          go_enter Try.func35, Try.ntmps35
          go_wp2
          go_end0
          exact ⟨rfl, PR.num H.out _ rfl rfl rfl (chg2 _ _ _ _ _ _) (fun vp vt vo hb => (hb.set 5 _).set 3 _)⟩
        · have e3 : decide (0 < inter) = false := by simpa using h3
          by_cases h4 : 0 < priv
          · have e4 : decide (0 < priv) = true := by simpa using h4
            simp only [e3, e4, Bool.false_or, Bool.or_false, Bool.true_or, Bool.or_true]
            clear e3 e4
            obtain ⟨nc0, nc2, nc3, nc4, nc5, nf0, nf2, nf3, nf4, nf5⟩ := H.out.nums
            clear hp hl hr
            go_enter Try.func35, Try.ntmps35
            go_wp2
            go_end0
            exact ⟨rfl, PR.num H.out _ rfl rfl rfl (chg2 _ _ _ _ _ _) (fun vp vt vo hb => (hb.set 5 _).set 3 _)⟩
          · have e4 : decide (0 < priv) = false := by simpa using h4
            simp only [e3, e4, Bool.false_or, Bool.or_false, Bool.true_or, Bool.or_true]
            clear e3 e4
            obtain ⟨nc0, nc2, nc3, nc4, nc5, nf0, nf2, nf3, nf4, nf5⟩ := H.out.nums
            clear hp hl hr
            go_enter Try.func35, Try.ntmps35
            go_wp2
            go_end0
            exact ⟨rfl, PR.num H.out _ rfl rfl rfl (chg2 _ _ _ _ _ _) (fun vp vt vo hb => (hb.set 5 _).set 3 _)⟩
  by_cases h3 : 0 < s.inter
  · rw [show partS s r = { s with sp := true } by unfold partS; rw [if_neg h2, if_pos h3]]
    obtain ⟨nc0, nc2, nc3, nc4, nc5, nf0, nf2, nf3, nf4, nf5⟩ := H.out.nums
    clear hp hl hr
    go_enter Try.func35, Try.ntmps35
    go_wp2
    go_end0
    exact ⟨rfl, PR.num H.out _ rfl rfl rfl (chg1 _ _ _ _) (fun vp vt vo hb => hb.set 5 _)⟩
  by_cases h4 : r ≤ 57
  · rw [show partS s r = digitS s (r - 48) by unfold partS; rw [if_neg h2, if_neg h3, if_pos h4]]
    obtain ⟨nc0, nc2, nc3, nc4, nc5, nf0, nf2, nf3, nf4, nf5⟩ := H.out.nums
    have HP := Lib.hid hp
    have HR := Lib.hid hr
    have hw : IntKind.i32.wrap (r - 48) = r - 48 := wraps_i32 _ (by omega) (by omega)
    have hw6 : IntKind.i64.wrap (r - 48) = r - 48 := wraps_i64 _ (by omega) (by omega)
    clear hp hr
    go_enter Try.func35, Try.ntmps35
    go_wp2_with fail
    go_at_call 39
    refine (digit_any H.out HP.out hl HR.out (r - 48) ⟨by omega, by omega⟩).mono ?_
    rintro e w2 ⟨rfl, hU⟩
    have HU := Lib.hid hU
    clear hU
    go_wp2
    go_end0
    exact ⟨rfl, HU.out⟩
  · rw [show partS s r = { s with params := s.params ++ [-1], told := true } by unfold partS; rw [if_neg h2, if_neg h3, if_neg h4]]
    have h' := H.out
    obtain ⟨q, vp, vt, vo, hb, i1, i2, i3, i4, i5, i6⟩ := h'
    obtain ⟨ao, cap, rfl, hcap, hmax, hnone, hsome⟩ := i1.form
    have hp1 : w.cell? ⟨p, 1, none⟩ = some (.slice ao s.params.length cap) := by rw [hb.cell]; rfl
    have hp4 : w.cell? ⟨p, 4, none⟩ = some (.int .i32 s.inter) := by rw [hb.cell]; rfl
    have hne := i1.ne hb (by decide)
    have HB := Lib.hid hb
    have I1 := Lib.hid i1
    have I2 := Lib.hid i2
    have I3 := Lib.hid i3
    have I4 := Lib.hid i4
    have I5 := Lib.hid i5
    have I6 := Lib.hid i6
    have HNE := Lib.hid hne
    clear hb i1 i2 i3 i4 i5 i6 hnone hsome hp hr hne
    go_enter Try.func35, Try.ntmps35
    go_wp2_with (at_builtin; refine wpList_push rfl (.tmp 9) (.tmp 10) 23 rfl 3 (.int .i64 0) 1 8 i_int u_ints rfl (by decide) (.slice ao s.params.length cap) _ _ rfl I1.out 1 1 rfl rfl rfl (by unfold maxLen; omega) (by omega) ?_)
    intro v1 w1 ho1 (hch1 : Chg w w1 (blkOf (.slice ao s.params.length cap))) (hfo1 : ∀ k, blkOf v1 k → blkOf (.slice ao s.params.length cap) k ∨ w.heap.size ≤ k)
    have hb1 := HB.out.kept hch1 HNE.out
    obtain ⟨a1, cap1, rfl, _⟩ := ho1.form
    have hc1 : w1.cell? ⟨p, 1, none⟩ = some (.slice ao s.params.length cap) := by rw [hb1.cell]; rfl
    have hc2 : w1.cell? ⟨p, 2, none⟩ = some (.bool s.told) := by rw [hb1.cell]; rfl
    have hf1 : w1.frozen? ⟨p, 1, none⟩ = false := hb1.free 1
    have hf2 : w1.frozen? ⟨p, 2, none⟩ = false := hb1.free 2
    have HB1 := Lib.hid hb1
    have HO1 := Lib.hid ho1
    have HC1 := Lib.hid hch1
    have HF1 := Lib.hid hfo1
    clear hb1 ho1 hch1 hfo1 hp1 hp4
    go_wp2
    go_end0
    have hne1 := HO1.out.ne HB1.out (by decide)
    have hcc : Chg w w1 (fun x => x = p ∨ blkOf (.slice ao s.params.length cap) x ∨ blkOf vt x) := HC1.out.mono (fun _ _ h => .inr (.inl h))
    have h2' : Own w1 21 1 vt s.text.length (runesV s.text) := I2.out.kept HC1.out (fun k hk h => I2.out.apart I1.out (by decide) hk h)
    refine ⟨rfl, PR.rows HB.out I1.out I2.out I3.out I4.out I5.out I6.out _ rfl (.slice a1 (s.params.length + 1) cap1) vt ((HB1.out.set 1 _).set 2 _) ?_ ?_ ((hcc.setCell (p := ⟨p, 1, none⟩) (.inl (.inl rfl)) _).setCell (p := ⟨p, 2, none⟩) (.inl (.inl rfl)) _) HF1.out (fun x hx => .inl hx)⟩
    · have h := Own.setOther (p := ⟨p, 2, none⟩) (Own.setOther (p := ⟨p, 1, none⟩) HO1.out hne1 (.slice a1 (s.params.length + 1) cap1)) hne1 (.bool true)
      show Own _ _ _ _ (s.params ++ [-1]).length _
      rw [List.length_append]
      simpa [intI] using h
    · exact Own.setOther (p := ⟨p, 2, none⟩) (Own.setOther (p := ⟨p, 1, none⟩) h2' (fun e => I2.out.ne HB.out (by decide) e) _) (fun e => I2.out.ne HB.out (by decide) e) _
end Go.Proofs.Ytaficleoimfejaa
