/-
  Chapter 8, the document's answer: one sign.
-/
import Derived.Test.YtaficleoimfejaaEsc27
namespace Go.Proofs.Ytaficleoimfejaa
open Go.RowKit
set_option linter.unusedVariables false
set_option linter.unusedSimpArgs false



set_option maxRecDepth 100000 in
set_option maxHeartbeats 8000000 in
theorem refone_any {w : World} {x : Nat} {s : RS} {F : Nat → Prop} {n : Nat} (h : RR w x s F) (hg : RSok s n) (hn : n ≤ 900000) (r : Int) :
    Calls Try.prog 18 #[.pointer (some ⟨x, 0, none⟩), .int .i32 r] w fun e w' => ∃ v, e = .returned v ∧ RO x (refOne s r).1 (refOne s r).2 F w w' v := by
  have H := Lib.hid h
  have HG := Lib.hid hg
  have hpl : s.params.length ≤ 1000000 := by have := hg.plen; omega
  have HPL := Lib.hid hpl
  have htl : s.text.length ≤ 1000000 := by have := hg.tlen; omega
  have HTL := Lib.hid htl
  have hst : s.st = 0 ∨ s.st = 1 ∨ s.st = 2 ∨ s.st = 3 ∨ s.st = 4 ∨ s.st = 5 ∨ s.st = 6 ∨ s.st = 7 := by have h0 := hg.st0; have h7 := hg.st7; omega
  have hc0 := H.out.nums.1
  have hf0 := H.out.nums.2.2.2.2.2.1
  clear h hg hpl htl
  by_cases h24 : r = 24
  · subst h24
    rw [show refOne s 24 = ({ s with st := 0 }, []) from rfl]
    clear hst
    go_enter Try.func18, Try.ntmps18
    go_wp2
    go_ret
    exact ⟨_, rfl, RO.nil (H.out.num _ rfl rfl (rchg1 _ _ _ _) (fun vp vt hb => hb.set 0 _))⟩
  by_cases h26 : r = 26
  · subst h26
    rw [show refOne s 26 = ({ s with st := 0 }, []) from rfl]
    clear hst
    go_enter Try.func18, Try.ntmps18
    go_wp2
    go_ret
    exact ⟨_, rfl, RO.nil (H.out.num _ rfl rfl (rchg1 _ _ _ _) (fun vp vt hb => hb.set 0 _))⟩
  by_cases h27 : r = 27
  · subst h27
    by_cases h4 : s.st = 4
    · rw [show refOne s 27 = ({ s with st := 6 }, []) by unfold refOne; rw [if_neg (by omega), if_pos rfl, if_pos h4]]
      rw [h4] at hc0
      clear hst h4
      go_enter Try.func18, Try.ntmps18
      go_wp2
      go_ret
      exact ⟨_, rfl, RO.nil (H.out.num _ rfl rfl (rchg1 _ _ _ _) (fun vp vt hb => hb.set 0 _))⟩
    by_cases h5 : s.st = 5
    · rw [show refOne s 27 = ({ s with st := 7 }, []) by unfold refOne; rw [if_neg (by omega), if_pos rfl, if_neg h4, if_pos h5]]
      rw [h5] at hc0
      clear hst h4 h5
      go_enter Try.func18, Try.ntmps18
      go_wp2
      go_ret
      exact ⟨_, rfl, RO.nil (H.out.num _ rfl rfl (rchg1 _ _ _ _) (fun vp vt hb => hb.set 0 _))⟩
    · rw [show refOne s 27 = ({ s with st := 1 }, []) by unfold refOne; rw [if_neg (by omega), if_pos rfl, if_neg h4, if_neg h5]]
      have e4 : (s.st == 4) = false := by simpa using h4
      have e5 : (s.st == 5) = false := by simpa using h5
      clear hst h4 h5
      go_enter Try.func18, Try.ntmps18
      go_wp2
      go_ret
      exact ⟨_, rfl, RO.nil (H.out.num _ rfl rfl (rchg1 _ _ _ _) (fun vp vt hb => hb.set 0 _))⟩
  have e24 : (r == 24) = false := by simpa using h24
  have e26 : (r == 26) = false := by simpa using h26
  have e27 : (r == 27) = false := by simpa using h27
  have hT : refOne s r = if s.st = 0 then (s, if r < 32 then [ev0 2 r 0 0] else if 127 ≤ r ∧ r ≤ 159 then [] else [ev0 1 r 0 0])
    else if s.st = 1 then refEscape s r else if s.st = 2 then refBetween s r else if s.st = 3 then refControl s r
    else if s.st = 4 then (if r = 7 then refTold s else if r < 32 ∨ r = 127 then (s, []) else if s.text.length < 128 then ({ s with text := s.text ++ [r] }, []) else (s, []))
    else if s.st = 6 then (if r = 92 then refTold s else refEscape s r) else if s.st = 7 then (if r = 92 then ({ s with st := 0 }, []) else refEscape s r) else (s, []) := by
    rw [refOne.eq_1 s r, if_neg (by omega), if_neg h27]
  clear h24 h26 h27
  rw [hT]
  clear hT
  rcases hst with hs | hs | hs | hs | hs | hs | hs | hs
  · rw [if_pos hs]
    rw [hs] at hc0
    clear hs
    by_cases h32 : r < 32
    · rw [if_pos h32]
      go_enter Try.func18, Try.ntmps18
      go_wp2
      go_ret
      exact ⟨_, rfl, RO.lit (RU.refl H.out) (ev0 2 r 0 0) rfl _ rfl _ rfl⟩
    · rw [if_neg h32]
      by_cases h127 : 127 ≤ r
      · by_cases h159 : r ≤ 159
        · rw [if_pos ⟨h127, h159⟩]
          go_enter Try.func18, Try.ntmps18
          go_wp2
          go_ret
          exact ⟨_, rfl, RO.nil (RU.refl H.out)⟩
        · rw [if_neg (by omega)]
          go_enter Try.func18, Try.ntmps18
          go_wp2
          go_ret
          exact ⟨_, rfl, RO.lit (RU.refl H.out) (ev0 1 r 0 0) rfl _ rfl _ rfl⟩
      · rw [if_neg (by omega)]
        go_enter Try.func18, Try.ntmps18
        go_wp2
        go_ret
        exact ⟨_, rfl, RO.lit (RU.refl H.out) (ev0 1 r 0 0) rfl _ rfl _ rfl⟩
  · rw [if_neg (by omega), if_pos hs]
    rw [hs] at hc0
    clear hs
    go_enter Try.func18, Try.ntmps18
    go_wp2_with fail
    go_at_call 28
    refine (refescape_any H.out r).mono ?_
    rintro e w2 ⟨v, rfl, hO⟩
    have HO := Lib.hid hO
    clear hO
    go_wp2
    go_ret
    exact ⟨v, rfl, HO.out⟩
  · rw [if_neg (by omega), if_neg (by omega), if_pos hs]
    rw [hs] at hc0
    clear hs
    go_enter Try.func18, Try.ntmps18
    go_wp2_with fail
    go_at_call 29
    refine (refbetween_any H.out r).mono ?_
    rintro e w2 ⟨v, rfl, hO⟩
    have HO := Lib.hid hO
    clear hO
    go_wp2
    go_ret
    exact ⟨v, rfl, HO.out⟩
  · rw [if_neg (by omega), if_neg (by omega), if_neg (by omega), if_pos hs]
    have HP := Lib.hid (HG.out.ctl hs)
    rw [hs] at hc0
    clear hs
    go_enter Try.func18, Try.ntmps18
    go_wp2_with fail
    go_at_call 30
    refine (refcontrol_any H.out HPL.out HP.out HG.out.rng r).mono ?_
    rintro e w2 ⟨v, rfl, hO⟩
    have HO := Lib.hid hO
    clear hO
    go_wp2
    go_ret
    exact ⟨v, rfl, HO.out⟩
  · rw [if_neg (by omega), if_neg (by omega), if_neg (by omega), if_neg (by omega), if_pos hs]
    rw [hs] at hc0
    clear hs
    by_cases h7 : r = 7
    · subst h7
      rw [if_pos rfl]
      clear e24 e26 e27
      go_enter Try.func18, Try.ntmps18
      go_wp2_with fail
      go_at_call 31
      refine (told_any H.out HTL.out).mono ?_
      rintro e w2 ⟨v, rfl, hO⟩
      have HO := Lib.hid hO
      clear hO
      go_wp2
      go_ret
      exact ⟨v, rfl, HO.out⟩
    rw [if_neg h7]
    have e7 : (r == 7) = false := by simpa using h7
    clear h7
    by_cases h32 : r < 32
    · rw [if_pos (.inl h32)]
      go_enter Try.func18, Try.ntmps18
      go_wp2
      go_ret
      exact ⟨_, rfl, RO.nil (RU.refl H.out)⟩
    by_cases h127 : r = 127
    · subst h127
      rw [if_pos (.inr rfl)]
      clear e24 e26 e27
      go_enter Try.func18, Try.ntmps18
      go_wp2
      go_ret
      exact ⟨_, rfl, RO.nil (RU.refl H.out)⟩
    rw [if_neg (by omega)]
    have e127 : (r == 127) = false := by simpa using h127
    clear h127
    have h' := H.out
    obtain ⟨vp, vt, hb, i1, i2, i6⟩ := h'
    obtain ⟨ao, cap, rfl, hcap, hmax, hnone, hsome⟩ := i2.form
    have hp6 : w.cell? ⟨x, 6, none⟩ = some (.slice ao s.text.length cap) := by rw [hb.cell]; rfl
    by_cases hl : s.text.length < 128
    · rw [if_pos hl]
      have hl' : (s.text.length : Int) < 128 := by omega
      have hne := i2.ne hb (by decide)
      have HB := Lib.hid hb
      have I1 := Lib.hid i1
      have I2 := Lib.hid i2
      have I6 := Lib.hid i6
      have HNE := Lib.hid hne
      clear hb i1 i2 i6 hnone hsome hne
      go_enter Try.func18, Try.ntmps18
      go_wp2_with (at_builtin; refine wpList_push rfl (.tmp 97) (.tmp 99) 22 rfl 21 (.int .i32 0) 1 4 i_rune u_runes rfl (by decide) (.slice ao s.text.length cap) _ _ rfl I2.out 1 1 rfl rfl rfl (by unfold maxLen; omega) (by omega) ?_)
      intro v1 w1 ho1 (hch1 : Chg w w1 (blkOf (.slice ao s.text.length cap))) (hfo1 : ∀ k, blkOf v1 k → blkOf (.slice ao s.text.length cap) k ∨ w.heap.size ≤ k)
      have hb1 := HB.out.kept hch1 HNE.out
      obtain ⟨a1, cap1, rfl, _⟩ := ho1.form
      have hc1 : w1.cell? ⟨x, 6, none⟩ = some (.slice ao s.text.length cap) := by rw [hb1.cell]; rfl
      have hf1 : w1.frozen? ⟨x, 6, none⟩ = false := hb1.free 6
      have HB1 := Lib.hid hb1
      have HO1 := Lib.hid ho1
      have HC1 := Lib.hid hch1
      have HF1 := Lib.hid hfo1
      clear hb1 ho1 hch1 hfo1 hp6
      go_wp2
      go_ret
      have hne1 := HO1.out.ne HB1.out (by decide)
      have hcc : Chg w w1 (fun y => y = x ∨ blkOf vp y ∨ blkOf (.slice ao s.text.length cap) y) := HC1.out.mono (fun _ _ h => .inr (.inr h))
      have h1' : Own w1 3 1 vp s.params.length (intI s.params) := I1.out.kept HC1.out (fun k hk h => I1.out.apart I2.out (by decide) hk h)
      refine ⟨_, rfl, RO.nil ?_⟩
      refine RR.rows HB.out I1.out I2.out I6.out _ vp (.slice a1 (s.text.length + 1) cap1) (HB1.out.set 6 _) ?_ ?_ (hcc.setCell (p := ⟨x, 6, none⟩) (.inl (.inl rfl)) _) (fun x hx => .inl hx) HF1.out
      · exact Own.setOther (p := ⟨x, 6, none⟩) h1' (fun e => I1.out.ne HB.out (by decide) e) _
      · have h := Own.setOther (p := ⟨x, 6, none⟩) HO1.out hne1 (.slice a1 (s.text.length + 1) cap1)
        show Own _ _ _ _ (s.text ++ [r]).length _
        rw [List.length_append]
        simpa [runesV] using h
    · rw [if_neg hl]
      have hl' : ¬ (s.text.length : Int) < 128 := by omega
      clear hb i1 i2 i6 hnone hsome
      go_enter Try.func18, Try.ntmps18
      go_wp2
      go_ret
      exact ⟨_, rfl, RO.nil (RU.refl H.out)⟩
  · rw [if_neg (by omega), if_neg (by omega), if_neg (by omega), if_neg (by omega), if_neg (by omega), if_neg (by omega), if_neg (by omega)]
    rw [hs] at hc0
    clear hs
    go_enter Try.func18, Try.ntmps18
    go_wp2
    go_ret
    exact ⟨_, rfl, RO.nil (RU.refl H.out)⟩
  · rw [if_neg (by omega), if_neg (by omega), if_neg (by omega), if_neg (by omega), if_neg (by omega), if_pos hs]
    rw [hs] at hc0
    clear hs
    by_cases h92 : r = 92
    · subst h92
      rw [if_pos rfl]
      clear e24 e26 e27
      go_enter Try.func18, Try.ntmps18
      go_wp2_with fail
      go_at_call 31
      refine (told_any H.out HTL.out).mono ?_
      rintro e w2 ⟨v, rfl, hO⟩
      have HO := Lib.hid hO
      clear hO
      go_wp2
      go_ret
      exact ⟨v, rfl, HO.out⟩
    · rw [if_neg h92]
      have e92 : (r == 92) = false := by simpa using h92
      clear h92
      go_enter Try.func18, Try.ntmps18
      go_wp2_with fail
      go_at_call 28
      refine (refescape_any H.out r).mono ?_
      rintro e w2 ⟨v, rfl, hO⟩
      have HO := Lib.hid hO
      clear hO
      go_wp2
      go_ret
      exact ⟨v, rfl, HO.out⟩
  · rw [if_neg (by omega), if_neg (by omega), if_neg (by omega), if_neg (by omega), if_neg (by omega), if_neg (by omega), if_pos hs]
    rw [hs] at hc0
    clear hs
    by_cases h92 : r = 92
    · subst h92
      rw [if_pos rfl]
      clear e24 e26 e27
      go_enter Try.func18, Try.ntmps18
      go_wp2
      go_ret
      exact ⟨_, rfl, RO.nil (H.out.num _ rfl rfl (rchg1 _ _ _ _) (fun vp vt hb => hb.set 0 _))⟩
    · rw [if_neg h92]
      have e92 : (r == 92) = false := by simpa using h92
      clear h92
      go_enter Try.func18, Try.ntmps18
      go_wp2_with fail
      go_at_call 28
      refine (refescape_any H.out r).mono ?_
      rintro e w2 ⟨v, rfl, hO⟩
      have HO := Lib.hid hO
      clear hO
      go_wp2
      go_ret
      exact ⟨v, rfl, HO.out⟩
end Go.Proofs.Ytaficleoimfejaa
