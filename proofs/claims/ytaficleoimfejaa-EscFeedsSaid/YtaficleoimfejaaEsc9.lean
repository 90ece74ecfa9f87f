/-
  Chapter 8: one sign; all signs.
-/
import Derived.Test.YtaficleoimfejaaEsc8
namespace Go.Proofs.Ytaficleoimfejaa
open Go.RowKit
set_option linter.unusedVariables false
set_option linter.unusedSimpArgs false


/-- What holds of a parser that n signs have gone through. -/
structure PSok (s : PS) (n : Nat) : Prop where
  st0 : 0 ≤ s.st
  st7 : s.st ≤ 7
  ctl : s.st = 3 → s.params ≠ []
  plen : s.params.length ≤ n + 1
  olen : s.out.length ≤ n
  tlen : s.text.length ≤ 128
  rng : ∀ x ∈ s.params, -1 ≤ x ∧ x ≤ 9999
section
variable {s : PS} {n : Nat} {r : Int}
theorem PSok.goes (h : PSok s n) {nx : Int} (h0 : 0 ≤ nx) (h7 : nx ≤ 7) : PSok (goesS s nx) n :=
  ⟨h0, h7, fun _ => by simp [goesS], by simp [goesS], h.olen, by simp [goesS], fun x hx => by simp [goesS] at hx; omega⟩
theorem PSok.tell (h : PSok s n) (e : Ev) : PSok (tellS s e) (n + 1) :=
  ⟨h.st0, h.st7, h.ctl, by have := h.plen; simp [tellS]; omega, by have := h.olen; simp [tellS]; omega, h.tlen, h.rng⟩
theorem PSok.up (h : PSok s n) : PSok s (n + 1) := ⟨h.st0, h.st7, h.ctl, by have := h.plen; omega, by have := h.olen; omega, h.tlen, h.rng⟩
theorem good_ground (h : PSok s n) : PSok (groundS s r) (n + 1) := by
  unfold groundS; (repeat' split) <;> first | exact h.tell _ | exact h.up
theorem good_escape (h : PSok s n) : PSok (escapeS s r) (n + 1) := by
  unfold escapeS
  (repeat' split) <;> first | exact h.tell _ | exact h.up | exact (h.goes (by omega) (by omega)).up | exact (h.tell _).goes (by omega) (by omega) | skip
  exact ⟨by simp, by simp, fun h => by simp at h, by have := h.plen; simp; omega, by have := h.olen; simp; omega, h.tlen, h.rng⟩
theorem good_between (h : PSok s n) : PSok (betweenS s r) (n + 1) := by
  unfold betweenS
  (repeat' split) <;> first | exact h.tell _ | exact h.up | exact (h.goes (by omega) (by omega)).up | exact (h.tell _).goes (by omega) (by omega) | skip
  exact ⟨h.st0, h.st7, h.ctl, h.up.plen, h.up.olen, h.tlen, h.rng⟩
theorem good_digit (h : PSok s n) (hr : 0 ≤ r) (h9 : r ≤ 9) : PSok (digitS s r) (n + 1) := by
  refine ⟨h.st0, h.st7, fun h3 => ?_, by have := h.plen; simp [digitS]; omega, h.up.olen, h.tlen, fun x hx => ?_⟩
  · have := h.ctl h3
    intro h0
    apply this
    have := congrArg List.length h0
    simp [digitS] at this
    exact this
  · rcases List.mem_or_eq_of_mem_set hx with h1 | h1
    · exact h.rng x h1
    · subst h1
      unfold mnI mxI
      (repeat' split) <;> omega
theorem good_part (h : PSok s n) (h0 : 48 ≤ r) (h6 : r < 64) : PSok (partS s r) (n + 1) := by
  unfold partS
  split
  · exact ⟨h.st0, h.st7, h.ctl, h.up.plen, h.up.olen, h.tlen, h.rng⟩
  · split
    · exact ⟨h.st0, h.st7, h.ctl, h.up.plen, h.up.olen, h.tlen, h.rng⟩
    · split
      · exact good_digit h (by omega) (by omega)
      · refine ⟨h.st0, h.st7, fun _ => by simp, by have := h.plen; simp; omega, h.up.olen, h.tlen, fun x hx => ?_⟩
        rcases List.mem_append.1 hx with h1 | h1
        · exact h.rng x h1
        · rw [List.mem_singleton] at h1; omega
theorem good_control (h : PSok s n) : PSok (controlS s r) (n + 1) := by
  unfold controlS
  split
  · exact h.tell _
  · split
    · exact h.up
    · split
      · exact ⟨h.st0, h.st7, h.ctl, h.up.plen, h.up.olen, h.tlen, h.rng⟩
      · split
        · exact good_part h (by omega) (by omega)
        · split
          · exact (h.tell _).goes (by omega) (by omega)
          · exact (h.goes (by omega) (by omega)).up
theorem good_ends (h : PSok s n) : PSok (endsS s) (n + 1) := (h.tell _).goes (by omega) (by omega)
theorem good_command (h : PSok s n) : PSok (commandS s r) (n + 1) := by
  unfold commandS
  (repeat' split) <;> first | exact good_ends h | exact h.up | skip
  exact ⟨h.st0, h.st7, h.ctl, h.up.plen, h.up.olen, by simp; omega, h.rng⟩
theorem good_take (h : PSok s n) : PSok (takeS s r) (n + 1) := by
  unfold takeS
  (repeat' split) <;> first | exact good_ground h | exact good_escape h | exact good_between h | exact good_control h | exact good_command h | exact good_ends h | exact (h.goes (by omega) (by omega)).up | exact h.up | exact good_escape (h.goes (by omega) (by omega)) | skip
  all_goals exact ⟨by simp, by simp, fun h => by simp at h, h.up.plen, h.up.olen, h.tlen, h.rng⟩
end
set_option maxRecDepth 100000 in
set_option maxHeartbeats 8000000 in
theorem take_any {w : World} {p : Nat} {s : PS} {F G : Nat → Prop} {n : Nat} (h : PR w p s F G) (hg : PSok s n) (hn : n ≤ 900000) (r : Int) :
    Calls Try.prog 17 #[.pointer (some ⟨p, 0, none⟩), .int .i32 r] w fun e w' => e = .returned (.tuple #[]) ∧ UP p (takeS s r) F G w w' := by
  have H := Lib.hid h
  have HG := Lib.hid hg
  have hol : s.out.length ≤ 1000000 := by have := hg.olen; omega
  have HOL := Lib.hid hol
  have hpl : s.params.length ≤ 1000000 := by have := hg.plen; omega
  have HPL := Lib.hid hpl
  have hst : s.st = 0 ∨ s.st = 1 ∨ s.st = 2 ∨ s.st = 3 ∨ s.st = 4 ∨ s.st = 5 ∨ s.st = 6 ∨ s.st = 7 := by have h0 := hg.st0; have h7 := hg.st7; omega
  have hc0 := H.out.nums.1
  have hf0 := H.out.nums.2.2.2.2.2.1
  clear h hg hol hpl
  by_cases h24 : r = 24
  · subst h24
    rw [show takeS s 24 = goesS s 0 from rfl]
    clear hst
    go_enter Try.func17, Try.ntmps17
    go_wp2_with fail
    go_at_call 21
    refine (goes_any H.out 0).mono ?_
    rintro e w2 ⟨rfl, hU⟩
    have HU := Lib.hid hU
    clear hU
    go_wp2
    go_end0
    exact ⟨rfl, HU.out⟩
  by_cases h26 : r = 26
  · subst h26
    rw [show takeS s 26 = goesS s 0 from rfl]
    clear hst
    go_enter Try.func17, Try.ntmps17
    go_wp2_with fail
    go_at_call 21
    refine (goes_any H.out 0).mono ?_
    rintro e w2 ⟨rfl, hU⟩
    have HU := Lib.hid hU
    clear hU
    go_wp2
    go_end0
    exact ⟨rfl, HU.out⟩
  by_cases h27 : r = 27
  · subst h27
    by_cases h4 : s.st = 4
    · rw [show takeS s 27 = { s with st := 6 } by unfold takeS; rw [if_neg (by omega), if_pos rfl, if_pos h4]]
      rw [h4] at hc0
      clear hst h4
      go_enter Try.func17, Try.ntmps17
      go_wp2
      go_end0
      exact ⟨rfl, PR.num H.out _ rfl rfl rfl (chg1 _ _ _ _) (fun vp vt vo hb => hb.set 0 _)⟩
    by_cases h5 : s.st = 5
    · rw [show takeS s 27 = { s with st := 7 } by unfold takeS; rw [if_neg (by omega), if_pos rfl, if_neg h4, if_pos h5]]
      rw [h5] at hc0
      clear hst h4 h5
      go_enter Try.func17, Try.ntmps17
      go_wp2
      go_end0
      exact ⟨rfl, PR.num H.out _ rfl rfl rfl (chg1 _ _ _ _) (fun vp vt vo hb => hb.set 0 _)⟩
    · rw [show takeS s 27 = goesS s 1 by unfold takeS; rw [if_neg (by omega), if_pos rfl, if_neg h4, if_neg h5]]
      have e4 : (s.st == 4) = false := by simpa using h4
      have e5 : (s.st == 5) = false := by simpa using h5
      clear hst h4 h5
      go_enter Try.func17, Try.ntmps17
      go_wp2_with fail
      go_at_call 21
      refine (goes_any H.out 1).mono ?_
      rintro e w2 ⟨rfl, hU⟩
      have HU := Lib.hid hU
      clear hU
      go_wp2
      go_end0
      exact ⟨rfl, HU.out⟩
  have e24 : (r == 24) = false := by simpa using h24
  have e26 : (r == 26) = false := by simpa using h26
  have e27 : (r == 27) = false := by simpa using h27
  have hT : takeS s r = if s.st = 0 then groundS s r else if s.st = 1 then escapeS s r else if s.st = 2 then betweenS s r else if s.st = 3 then controlS s r else if s.st = 4 then commandS s r
    else if s.st = 6 ∧ r = 92 then endsS s else if s.st = 7 ∧ r = 92 then goesS s 0 else if s.st = 5 then s else escapeS (goesS s 1) r := by
    rw [takeS.eq_1 s r, if_neg (by omega), if_neg h27]
  clear h24 h26 h27
  rw [hT]
  clear hT
  rcases hst with hs | hs | hs | hs | hs | hs | hs | hs
  · rw [if_pos hs]
    rw [hs] at hc0
    clear hs
    go_enter Try.func17, Try.ntmps17
    go_wp2_with fail
    go_at_call 22
    refine (ground_any H.out HOL.out r).mono ?_
    rintro e w2 ⟨rfl, hU⟩
    have HU := Lib.hid hU
    clear hU
    go_wp2
    go_end0
    exact ⟨rfl, HU.out⟩
  · rw [if_neg (by omega), if_pos hs]
    rw [hs] at hc0
    clear hs
    go_enter Try.func17, Try.ntmps17
    go_wp2_with fail
    go_at_call 23
    refine (escape_any H.out HOL.out r).mono ?_
    rintro e w2 ⟨rfl, hU⟩
    have HU := Lib.hid hU
    clear hU
    go_wp2
    go_end0
    exact ⟨rfl, HU.out⟩
  · rw [if_neg (by omega), if_neg (by omega), if_pos hs]
    rw [hs] at hc0
    clear hs
    go_enter Try.func17, Try.ntmps17
    go_wp2_with fail
    go_at_call 24
    refine (between_any H.out HOL.out r).mono ?_
    rintro e w2 ⟨rfl, hU⟩
    have HU := Lib.hid hU
    clear hU
    go_wp2
    go_end0
    exact ⟨rfl, HU.out⟩
  · rw [if_neg (by omega), if_neg (by omega), if_neg (by omega), if_pos hs]
    have HP := Lib.hid (HG.out.ctl hs)
    rw [hs] at hc0
    clear hs
    go_enter Try.func17, Try.ntmps17
    go_wp2_with fail
    go_at_call 25
    refine (control_any H.out HOL.out HP.out HPL.out HG.out.rng r).mono ?_
    rintro e w2 ⟨rfl, hU⟩
    have HU := Lib.hid hU
    clear hU
    go_wp2
    go_end0
    exact ⟨rfl, HU.out⟩
  · rw [if_neg (by omega), if_neg (by omega), if_neg (by omega), if_neg (by omega), if_pos hs]
    rw [hs] at hc0
    clear hs
    go_enter Try.func17, Try.ntmps17
    go_wp2_with fail
    go_at_call 26
    refine (command_any H.out HOL.out HG.out.tlen r).mono ?_
    rintro e w2 ⟨rfl, hU⟩
    have HU := Lib.hid hU
    clear hU
    go_wp2
    go_end0
    exact ⟨rfl, HU.out⟩
  · rw [if_neg (by omega), if_neg (by omega), if_neg (by omega), if_neg (by omega), if_neg (by omega), if_neg (by omega), if_neg (by omega), if_pos hs]
    rw [hs] at hc0
    clear hs
    go_enter Try.func17, Try.ntmps17
    go_wp2
    go_end0
    exact ⟨rfl, UP.refl H.out⟩
  · by_cases h92 : r = 92
    · rw [if_neg (by omega), if_neg (by omega), if_neg (by omega), if_neg (by omega), if_neg (by omega), if_pos ⟨hs, h92⟩]
      subst h92
      rw [hs] at hc0
      clear hs e24 e26 e27
      go_enter Try.func17, Try.ntmps17
      go_wp2_with fail
      go_at_call 27
      refine (ends_any H.out HOL.out).mono ?_
      rintro e w2 ⟨rfl, hU⟩
      have HU := Lib.hid hU
      clear hU
      go_wp2
      go_end0
      exact ⟨rfl, HU.out⟩
    · rw [if_neg (by omega), if_neg (by omega), if_neg (by omega), if_neg (by omega), if_neg (by omega), if_neg (by omega), if_neg (by omega), if_neg (by omega)]
      have e92 : (r == 92) = false := by simpa using h92
      rw [hs] at hc0
      clear hs h92
      go_enter Try.func17, Try.ntmps17
      go_wp2_with fail
      go_at_call 21
      refine (goes_any H.out 1).mono ?_
      rintro e w2 ⟨rfl, hU⟩
      have HU := Lib.hid hU
      clear hU
      obtain ⟨hc1, F1, G1, hP1, hF1, hG1⟩ := HU.out
      have H0 := H
      have H := Lib.hid hP1
      have HS : Hid (∀ w3 s2, UP p s2 F1 G1 w2 w3 → UP p s2 F G w w3) := Lib.hid (fun w3 s2 h => UP.step hc1 hF1 hG1 h)
      clear hc1 hP1 hF1 hG1 HU H0 hc0 hf0
      go_wp2_with fail
      go_at_call 23
      refine (escape_any H.out HOL.out r).mono ?_
      rintro e w2 ⟨rfl, hU⟩
      have HU := Lib.hid hU
      clear hU
      go_wp2
      go_end0
      exact ⟨rfl, HS.out _ _ HU.out⟩
  · by_cases h92 : r = 92
    · rw [if_neg (by omega), if_neg (by omega), if_neg (by omega), if_neg (by omega), if_neg (by omega), if_neg (by omega), if_pos ⟨hs, h92⟩]
      subst h92
      rw [hs] at hc0
      clear hs e24 e26 e27
      go_enter Try.func17, Try.ntmps17
      go_wp2_with fail
      go_at_call 21
      refine (goes_any H.out 0).mono ?_
      rintro e w2 ⟨rfl, hU⟩
      have HU := Lib.hid hU
      clear hU
      go_wp2
      go_end0
      exact ⟨rfl, HU.out⟩
    · rw [if_neg (by omega), if_neg (by omega), if_neg (by omega), if_neg (by omega), if_neg (by omega), if_neg (by omega), if_neg (by omega), if_neg (by omega)]
      have e92 : (r == 92) = false := by simpa using h92
      rw [hs] at hc0
      clear hs h92
      go_enter Try.func17, Try.ntmps17
      go_wp2_with fail
      go_at_call 21
      refine (goes_any H.out 1).mono ?_
      rintro e w2 ⟨rfl, hU⟩
      have HU := Lib.hid hU
      clear hU
      obtain ⟨hc1, F1, G1, hP1, hF1, hG1⟩ := HU.out
      have H0 := H
      have H := Lib.hid hP1
      have HS : Hid (∀ w3 s2, UP p s2 F1 G1 w2 w3 → UP p s2 F G w w3) := Lib.hid (fun w3 s2 h => UP.step hc1 hF1 hG1 h)
      clear hc1 hP1 hF1 hG1 HU H0 hc0 hf0
      go_wp2_with fail
      go_at_call 23
      refine (escape_any H.out HOL.out r).mono ?_
      rintro e w2 ⟨rfl, hU⟩
      have HU := Lib.hid hU
      clear hU
      go_wp2
      go_end0
      exact ⟨rfl, HS.out _ _ HU.out⟩
end Go.Proofs.Ytaficleoimfejaa
