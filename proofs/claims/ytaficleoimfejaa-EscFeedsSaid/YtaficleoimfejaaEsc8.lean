/-
  Chapter 8: a sign of a command; one sign.
-/
import Derived.Test.YtaficleoimfejaaEsc7
namespace Go.Proofs.Ytaficleoimfejaa
open Go.RowKit
set_option linter.unusedVariables false
set_option linter.unusedSimpArgs false


theorem u_string : Try.prog.underlying 9 = some .string := by kernel_rfl
theorem u_int32 : Try.prog.underlying 21 = some (.int .i32) := by kernel_rfl
theorem rd_text {w : World} {vt : Value} {t : List Int} (h : Own w 21 1 vt t.length (runesV t)) : (convert 22 9 vt).run Try.prog w = .ok (.string (runesBytes t)) w := by
  obtain ⟨ao, cap, rfl, hcap, hmax, hnone, hsome⟩ := h.form
  cases ao with
  | none =>
    have := List.length_eq_zero_iff.1 (hnone rfl).1
    subst this
    exact run_convert_runes_nil w _ _ _ _ _ u_runes u_int32 u_string
  | some a =>
    obtain ⟨g, rfl⟩ := hsome a rfl
    have hh := run_convert_runes (P := Try.prog) w 22 9 21 ⟨g, 0, none⟩ t.length cap t (Nat.le_refl _) u_runes u_int32 u_string (fun j hj => by
      rw [Addr.add_lit, Nat.zero_add, h.cellAt j (by omega)]
      simp [runesV, List.getD, hj])
    rw [List.take_length] at hh
    exact hh
def endsS (s : PS) : PS := goesS (tellS s ⟨5, 0, [], 0, 0, 0, runesBytes s.text⟩) 0
def commandS (s : PS) (r : Int) : PS := if r = 7 then endsS s else if r < 32 ∨ r = 127 then s else if s.text.length < 128 then { s with text := s.text ++ [r] } else s
def takeS (s : PS) (r : Int) : PS :=
  if r = 24 ∨ r = 26 then goesS s 0
  else if r = 27 then (if s.st = 4 then { s with st := 6 } else if s.st = 5 then { s with st := 7 } else goesS s 1)
  else if s.st = 0 then groundS s r else if s.st = 1 then escapeS s r else if s.st = 2 then betweenS s r else if s.st = 3 then controlS s r else if s.st = 4 then commandS s r
  else if s.st = 6 ∧ r = 92 then endsS s else if s.st = 7 ∧ r = 92 then goesS s 0 else if s.st = 5 then s else escapeS (goesS s 1) r

set_option maxRecDepth 100000 in
set_option maxHeartbeats 4000000 in
theorem ends_any {w : World} {p : Nat} {s : PS} {F G : Nat → Prop} (h : PR w p s F G) (hn : s.out.length ≤ 1000000) :
    Calls Try.prog 27 #[.pointer (some ⟨p, 0, none⟩)] w fun e w' => e = .returned (.tuple #[]) ∧ UP p (endsS s) F G w w' := by
  have H := Lib.hid h
  obtain ⟨q, vp, vt, vo, hb, i1, i2, i3, i4, i5, i6⟩ := h
  have hrd := rd_text i2
  have hp6 : w.cell? ⟨p, 6, none⟩ = some vt := by rw [hb.cell]; rfl
  obtain ⟨ao, cap, rfl, hcap, hmax, hnone, hsome⟩ := i2.form
  have w1 := w
  clear hb i1 i2 i3 i4 i5 i6 hnone hsome hcap hmax w1
  go_enter Try.func27, Try.ntmps27
  go_wp2_with fail
  go_at_call 34
  refine (tells_any H.out hn 5 0 0 0 0 (runesBytes s.text)).mono ?_
  rintro e w2 ⟨rfl, hU⟩
  obtain ⟨hc1, F1, G1, hP1, hF1, hG1⟩ := hU
  have H0 := H
  have H := Lib.hid hP1
  have HS : Hid (∀ w3 s2, UP p s2 F1 G1 w2 w3 → UP p s2 F G w w3) := Lib.hid (fun w3 s2 h => UP.step hc1 hF1 hG1 h)
  clear hc1 hP1 hF1 hG1 H0 hrd hp6
  go_wp2_with fail
  go_at_call 21
  refine (goes_any H.out 0).mono ?_
  rintro e w2 ⟨rfl, hU⟩
  have HU := Lib.hid hU
  clear hU
  go_wp2
  go_end0
  exact ⟨rfl, HS.out _ _ HU.out⟩

set_option maxRecDepth 100000 in
set_option maxHeartbeats 4000000 in
theorem command_any {w : World} {p : Nat} {s : PS} {F G : Nat → Prop} (h : PR w p s F G) (hn : s.out.length ≤ 1000000) (ht : s.text.length ≤ 128) (r : Int) :
    Calls Try.prog 26 #[.pointer (some ⟨p, 0, none⟩), .int .i32 r] w fun e w' => e = .returned (.tuple #[]) ∧ UP p (commandS s r) F G w w' := by
  have H := Lib.hid h
  clear h
  by_cases h7 : r = 7
  · subst h7
    rw [show commandS s 7 = endsS s from rfl]
    go_enter Try.func26, Try.ntmps26
    go_wp2_with fail
    go_at_call 27
    refine (ends_any H.out hn).mono ?_
    rintro e w2 ⟨rfl, hU⟩
    have HU := Lib.hid hU
    clear hU
    go_wp2
    go_end0
    exact ⟨rfl, HU.out⟩
  have e7 : (r == 7) = false := by simpa using h7
  by_cases hr : r < 32
  · rw [show commandS s r = s by unfold commandS; rw [if_neg h7, if_pos (.inl hr)]]
    clear h7
    go_enter Try.func26, Try.ntmps26
    go_wp2
    go_end0
    exact ⟨rfl, UP.refl H.out⟩
  by_cases h0 : r = 127
  · subst h0
    rw [show commandS s 127 = s from rfl]
    clear h7
    go_enter Try.func26, Try.ntmps26
    go_wp2
    go_end0
    exact ⟨rfl, UP.refl H.out⟩
  have e0 : (r == 127) = false := by simpa using h0
  have h' := H.out
  obtain ⟨q, vp, vt, vo, hb, i1, i2, i3, i4, i5, i6⟩ := h'
  obtain ⟨ao, cap, rfl, hcap, hmax, hnone, hsome⟩ := i2.form
  have hp6 : w.cell? ⟨p, 6, none⟩ = some (.slice ao s.text.length cap) := by rw [hb.cell]; rfl
  by_cases hl : s.text.length < 128
  · rw [show commandS s r = { s with text := s.text ++ [r] } by unfold commandS; rw [if_neg h7, if_neg (by omega), if_pos hl]]
    have hl' : (s.text.length : Int) < 128 := by omega
    have hne := i2.ne hb (by decide)
    have HB := Lib.hid hb
    have I1 := Lib.hid i1
    have I2 := Lib.hid i2
    have I3 := Lib.hid i3
    have I4 := Lib.hid i4
    have I5 := Lib.hid i5
    have I6 := Lib.hid i6
    have HNE := Lib.hid hne
    clear hb i1 i2 i3 i4 i5 i6 hnone hsome hne h7 h0
    go_enter Try.func26, Try.ntmps26
    go_wp2_with (at_builtin; refine wpList_push rfl (.tmp 27) (.tmp 29) 22 rfl 21 (.int .i32 0) 1 4 i_rune u_runes rfl (by decide) (.slice ao s.text.length cap) _ _ rfl I2.out 1 1 rfl rfl rfl (by unfold maxLen; omega) (by omega) ?_)
    intro v1 w1 ho1 (hch1 : Chg w w1 (blkOf (.slice ao s.text.length cap))) (hfo1 : ∀ k, blkOf v1 k → blkOf (.slice ao s.text.length cap) k ∨ w.heap.size ≤ k)
    have hb1 := HB.out.kept hch1 HNE.out
    obtain ⟨a1, cap1, rfl, _⟩ := ho1.form
    have hc1 : w1.cell? ⟨p, 6, none⟩ = some (.slice ao s.text.length cap) := by rw [hb1.cell]; rfl
    have hf1 : w1.frozen? ⟨p, 6, none⟩ = false := hb1.free 6
    have HB1 := Lib.hid hb1
    have HO1 := Lib.hid ho1
    have HC1 := Lib.hid hch1
    have HF1 := Lib.hid hfo1
    clear hb1 ho1 hch1 hfo1 hp6
    go_wp2
    go_end0
    have hne1 := HO1.out.ne HB1.out (by decide)
    have hcc : Chg w w1 (fun x => x = p ∨ blkOf vp x ∨ blkOf (.slice ao s.text.length cap) x) := HC1.out.mono (fun _ _ h => .inr (.inr h))
    have h1' : Own w1 3 1 vp s.params.length (intI s.params) := I1.out.kept HC1.out (fun k hk h => I1.out.apart I2.out (by decide) hk h)
    refine ⟨rfl, PR.rows HB.out I1.out I2.out I3.out I4.out I5.out I6.out _ rfl vp (.slice a1 (s.text.length + 1) cap1) (HB1.out.set 6 _) ?_ ?_ (hcc.setCell (p := ⟨p, 6, none⟩) (.inl (.inl rfl)) _) (fun x hx => .inl hx) HF1.out⟩
    · exact Own.setOther (p := ⟨p, 6, none⟩) h1' (fun e => I1.out.ne HB.out (by decide) e) _
    · have h := Own.setOther (p := ⟨p, 6, none⟩) HO1.out hne1 (.slice a1 (s.text.length + 1) cap1)
      show Own _ _ _ _ (s.text ++ [r]).length _
      rw [List.length_append]
      simpa [runesV] using h
  · rw [show commandS s r = s by unfold commandS; rw [if_neg h7, if_neg (by omega), if_neg hl]]
    have hl' : ¬ (s.text.length : Int) < 128 := by omega
    clear hb i1 i2 i3 i4 i5 i6 hnone hsome h7 h0
    go_enter Try.func26, Try.ntmps26
    go_wp2
    go_end0
    exact ⟨rfl, UP.refl H.out⟩
end Go.Proofs.Ytaficleoimfejaa
