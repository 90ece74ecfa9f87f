/-
  Chapter 8, the document's answer: escape, between.
-/
import Derived.Test.YtaficleoimfejaaEsc20
namespace Go.Proofs.Ytaficleoimfejaa
open Go.RowKit
set_option linter.unusedVariables false
set_option linter.unusedSimpArgs false

theorem rchg1 (w : World) (p i : Nat) (u : Value) : Chg w (w.setCell ⟨p, i, none⟩ u) (fun x => x = p) := Chg.setCell (F := fun x => x = p) (p := ⟨p, i, none⟩) (Chg.refl w _) (.inl rfl) u
theorem rchg2 (w : World) (p i j : Nat) (u v : Value) : Chg w ((w.setCell ⟨p, i, none⟩ u).setCell ⟨p, j, none⟩ v) (fun x => x = p) := Chg.setCell (F := fun x => x = p) (p := ⟨p, j, none⟩) (rchg1 w p i u) (.inl rfl) v
def refEscape (s : RS) (r : Int) : RS × List Ev :=
  if r < 32 then ({ s with st := 1 }, [ev0 2 r 0 0]) else if r = 91 then (beginS 3, []) else if r = 93 then (beginS 4, [])
  else if r = 80 ∨ r = 88 ∨ r = 94 ∨ r = 95 then (beginS 5, []) else if r ≤ 47 then ({ beginS 2 with inter := r }, [])
  else if r ≤ 126 then ({ s with st := 0 }, [ev0 3 0 0 r]) else if r = 127 then ({ s with st := 1 }, []) else ({ s with st := 0 }, [])
set_option maxRecDepth 100000 in
set_option maxHeartbeats 4000000 in
theorem refescape_any {w : World} {x : Nat} {s : RS} {F : Nat → Prop} (h : RR w x s F) (r : Int) :
    Calls Try.prog 28 #[.pointer (some ⟨x, 0, none⟩), .int .i32 r] w fun e w' => ∃ v, e = .returned v ∧ RO x (refEscape s r).1 (refEscape s r).2 F w w' v := by
  have H := Lib.hid h
  clear h
  by_cases hr : r < 32
  · rw [show refEscape s r = ({ s with st := 1 }, [ev0 2 r 0 0]) by unfold refEscape; rw [if_pos hr]]
    obtain ⟨nc0, nc2, nc3, nc4, nc5, nf0, nf2, nf3, nf4, nf5⟩ := H.out.nums
    go_enter Try.func28, Try.ntmps28
    go_wp2
    go_ret
    have hU : RU x { s with st := 1 } F w (w.setCell ⟨x, 0, none⟩ (.int .i64 1)) := H.out.num _ rfl rfl (rchg1 _ _ _ _) (fun vp vt hb => hb.set 0 _)
    exact ⟨_, rfl, RO.lit hU (ev0 2 r 0 0) rfl _ rfl _ (by simp [World.setCell])⟩
  by_cases h1 : r = 91
  · subst h1
    rw [show refEscape s 91 = (beginS 3, []) from rfl]
    obtain ⟨nc0, nc2, nc3, nc4, nc5, nf0, nf2, nf3, nf4, nf5⟩ := H.out.nums
    go_enter Try.func28, Try.ntmps28
    have hU1 : RU x { s with st := 1 } F w (w.setCell ⟨x, 0, none⟩ (.int .i64 1)) := H.out.num _ rfl rfl (rchg1 _ _ _ _) (fun vp vt hb => hb.set 0 _)
    obtain ⟨hc1, F1, hP1, hF1⟩ := hU1
    have HP1 := Lib.hid hP1
    have HS : Hid (∀ w3 s2, RU x s2 F1 (w.setCell ⟨x, 0, none⟩ (.int .i64 1)) w3 → RU x s2 F w w3) := Lib.hid (fun w3 s2 h => RU.step hc1 hF1 h)
    clear hc1 hF1 hP1
    go_wp2_with fail
    go_at_call 37
    refine (begin_any HP1.out 3).mono ?_
    rintro e w2 ⟨rfl, hU⟩
    have HU := Lib.hid (HS.out _ _ hU)
    clear hU HS HP1
    go_wp2
    go_ret
    exact ⟨_, rfl, RO.nil HU.out⟩
  by_cases h2 : r = 93
  · subst h2
    rw [show refEscape s 93 = (beginS 4, []) from rfl]
    obtain ⟨nc0, nc2, nc3, nc4, nc5, nf0, nf2, nf3, nf4, nf5⟩ := H.out.nums
    go_enter Try.func28, Try.ntmps28
    have hU1 : RU x { s with st := 1 } F w (w.setCell ⟨x, 0, none⟩ (.int .i64 1)) := H.out.num _ rfl rfl (rchg1 _ _ _ _) (fun vp vt hb => hb.set 0 _)
    obtain ⟨hc1, F1, hP1, hF1⟩ := hU1
    have HP1 := Lib.hid hP1
    have HS : Hid (∀ w3 s2, RU x s2 F1 (w.setCell ⟨x, 0, none⟩ (.int .i64 1)) w3 → RU x s2 F w w3) := Lib.hid (fun w3 s2 h => RU.step hc1 hF1 h)
    clear hc1 hF1 hP1
    go_wp2_with fail
    go_at_call 37
    refine (begin_any HP1.out 4).mono ?_
    rintro e w2 ⟨rfl, hU⟩
    have HU := Lib.hid (HS.out _ _ hU)
    clear hU HS HP1
    go_wp2
    go_ret
    exact ⟨_, rfl, RO.nil HU.out⟩
  by_cases h3 : r = 80 ∨ r = 88 ∨ r = 94 ∨ r = 95
  · rcases h3 with h3 | h3 | h3 | h3
    all_goals
      subst h3
      rw [show refEscape s _ = (beginS 5, []) from rfl]
      obtain ⟨nc0, nc2, nc3, nc4, nc5, nf0, nf2, nf3, nf4, nf5⟩ := H.out.nums
      go_enter Try.func28, Try.ntmps28
      have hU1 : RU x { s with st := 1 } F w (w.setCell ⟨x, 0, none⟩ (.int .i64 1)) := H.out.num _ rfl rfl (rchg1 _ _ _ _) (fun vp vt hb => hb.set 0 _)
      obtain ⟨hc1, F1, hP1, hF1⟩ := hU1
      have HP1 := Lib.hid hP1
      have HS : Hid (∀ w3 s2, RU x s2 F1 (w.setCell ⟨x, 0, none⟩ (.int .i64 1)) w3 → RU x s2 F w w3) := Lib.hid (fun w3 s2 h => RU.step hc1 hF1 h)
      clear hc1 hF1 hP1
      go_wp2_with fail
      go_at_call 37
      refine (begin_any HP1.out 5).mono ?_
      rintro e w2 ⟨rfl, hU⟩
      have HU := Lib.hid (HS.out _ _ hU)
      clear hU HS HP1
      go_wp2
      go_ret
      exact ⟨_, rfl, RO.nil HU.out⟩
  have e1 : (r == 91) = false := by simpa using h1
  have e2 : (r == 93) = false := by simpa using h2
  have e3 : (r == 80) = false := by simp; omega
  have e4 : (r == 88) = false := by simp; omega
  have e5 : (r == 94) = false := by simp; omega
  have e6 : (r == 95) = false := by simp; omega
  have hR : refEscape s r = if r ≤ 47 then ({ beginS 2 with inter := r }, []) else if r ≤ 126 then ({ s with st := 0 }, [ev0 3 0 0 r]) else if r = 127 then ({ s with st := 1 }, []) else ({ s with st := 0 }, []) := by
    unfold refEscape; rw [if_neg hr, if_neg h1, if_neg h2, if_neg h3]
  rw [hR]
  clear hR h1 h2 h3
  by_cases h4 : r ≤ 47
  · rw [if_pos h4]
    obtain ⟨nc0, nc2, nc3, nc4, nc5, nf0, nf2, nf3, nf4, nf5⟩ := H.out.nums
    go_enter Try.func28, Try.ntmps28
    have hU1 : RU x { s with st := 1 } F w (w.setCell ⟨x, 0, none⟩ (.int .i64 1)) := H.out.num _ rfl rfl (rchg1 _ _ _ _) (fun vp vt hb => hb.set 0 _)
    obtain ⟨hc1, F1, hP1, hF1⟩ := hU1
    have HP1 := Lib.hid hP1
    have HS : Hid (∀ w3 s2, RU x s2 F1 (w.setCell ⟨x, 0, none⟩ (.int .i64 1)) w3 → RU x s2 F w w3) := Lib.hid (fun w3 s2 h => RU.step hc1 hF1 h)
    clear hc1 hF1 hP1
    go_wp2_with fail
    go_at_call 37
    refine (begin_any HP1.out 2).mono ?_
    rintro e w2 ⟨rfl, hU⟩
    have HU := Lib.hid (HS.out _ _ hU)
    clear hU HS HP1
    obtain ⟨hc2, F2, hP2, hF2⟩ := HU.out
    have H2 := Lib.hid hP2
    have HS2 : Hid (∀ w3 s2, RU x s2 F2 w2 w3 → RU x s2 F w w3) := Lib.hid (fun w3 s2 h => RU.step hc2 hF2 h)
    obtain ⟨mc0, mc2, mc3, mc4, mc5, mf0, mf2, mf3, mf4, mf5⟩ := H2.out.nums
    clear hc2 hF2 hP2 HU
    go_wp2
    go_ret
    exact ⟨_, rfl, RO.nil (HS2.out _ _ (H2.out.num _ rfl rfl (rchg1 _ _ _ _) (fun vp vt hb => hb.set 5 _)))⟩
  rw [if_neg h4]
  by_cases h5 : r ≤ 126
  · rw [if_pos h5]
    obtain ⟨nc0, nc2, nc3, nc4, nc5, nf0, nf2, nf3, nf4, nf5⟩ := H.out.nums
    go_enter Try.func28, Try.ntmps28
    go_wp2
    go_ret
    have hU : RU x { s with st := 0 } F w ((w.setCell ⟨x, 0, none⟩ (.int .i64 1)).setCell ⟨x, 0, none⟩ (.int .i64 0)) := H.out.num _ rfl rfl (rchg2 _ _ _ _ _ _) (fun vp vt hb => (hb.set 0 _).set 0 _)
    exact ⟨_, rfl, RO.lit hU (ev0 3 0 0 r) rfl _ rfl _ (by simp [World.setCell])⟩
  rw [if_neg h5]
  by_cases h6 : r = 127
  · subst h6
    rw [if_pos rfl]
    obtain ⟨nc0, nc2, nc3, nc4, nc5, nf0, nf2, nf3, nf4, nf5⟩ := H.out.nums
    go_enter Try.func28, Try.ntmps28
    go_wp2
    go_ret
    exact ⟨_, rfl, RO.nil (H.out.num _ rfl rfl (rchg1 _ _ _ _) (fun vp vt hb => hb.set 0 _))⟩
  · rw [if_neg h6]
    have e7 : (r == 127) = false := by simpa using h6
    obtain ⟨nc0, nc2, nc3, nc4, nc5, nf0, nf2, nf3, nf4, nf5⟩ := H.out.nums
    clear h6
    go_enter Try.func28, Try.ntmps28
    go_wp2
    go_ret
    exact ⟨_, rfl, RO.nil (H.out.num _ rfl rfl (rchg2 _ _ _ _ _ _) (fun vp vt hb => (hb.set 0 _).set 0 _))⟩

def refBetween (s : RS) (r : Int) : RS × List Ev :=
  if r < 32 then (s, [ev0 2 r 0 0]) else if r ≤ 47 then ({ s with sp := true }, []) else if r ≤ 126 then ({ s with st := 0 }, if s.sp = false then [ev0 3 0 s.inter r] else [])
  else if r = 127 then (s, []) else ({ s with st := 0 }, [])
set_option maxRecDepth 100000 in
set_option maxHeartbeats 4000000 in
theorem refbetween_any {w : World} {x : Nat} {s : RS} {F : Nat → Prop} (h : RR w x s F) (r : Int) :
    Calls Try.prog 29 #[.pointer (some ⟨x, 0, none⟩), .int .i32 r] w fun e w' => ∃ v, e = .returned v ∧ RO x (refBetween s r).1 (refBetween s r).2 F w w' v := by
  have H := Lib.hid h
  clear h
  by_cases hr : r < 32
  · rw [show refBetween s r = (s, [ev0 2 r 0 0]) by unfold refBetween; rw [if_pos hr]]
    go_enter Try.func29, Try.ntmps29
    go_wp2
    go_ret
    exact ⟨_, rfl, RO.lit (RU.refl H.out) (ev0 2 r 0 0) rfl _ rfl _ rfl⟩
  by_cases h4 : r ≤ 47
  · rw [show refBetween s r = ({ s with sp := true }, []) by unfold refBetween; rw [if_neg hr, if_pos h4]]
    obtain ⟨nc0, nc2, nc3, nc4, nc5, nf0, nf2, nf3, nf4, nf5⟩ := H.out.nums
    go_enter Try.func29, Try.ntmps29
    go_wp2
    go_ret
    exact ⟨_, rfl, RO.nil (H.out.num _ rfl rfl (rchg1 _ _ _ _) (fun vp vt hb => hb.set 3 _))⟩
  by_cases h5 : r ≤ 126
  · obtain ⟨st, params, any, sp, priv, inter, text⟩ := s
    cases sp with
    | false =>
      rw [show refBetween ⟨st, params, any, false, priv, inter, text⟩ r = (⟨0, params, any, false, priv, inter, text⟩, [ev0 3 0 inter r]) by unfold refBetween; rw [if_neg hr, if_neg h4, if_pos h5]; rfl]
      obtain ⟨nc0, nc2, nc3, nc4, nc5, nf0, nf2, nf3, nf4, nf5⟩ := H.out.nums
      go_enter Try.func29, Try.ntmps29
      go_wp2
      go_ret
      have hU : RU x ⟨0, params, any, false, priv, inter, text⟩ F w (w.setCell ⟨x, 0, none⟩ (.int .i64 0)) := H.out.num _ rfl rfl (rchg1 _ _ _ _) (fun vp vt hb => hb.set 0 _)
      exact ⟨_, rfl, RO.lit hU (ev0 3 0 inter r) rfl _ rfl _ (by simp [World.setCell])⟩
    | true =>
      rw [show refBetween ⟨st, params, any, true, priv, inter, text⟩ r = (⟨0, params, any, true, priv, inter, text⟩, []) by unfold refBetween; rw [if_neg hr, if_neg h4, if_pos h5]; rfl]
      obtain ⟨nc0, nc2, nc3, nc4, nc5, nf0, nf2, nf3, nf4, nf5⟩ := H.out.nums
      go_enter Try.func29, Try.ntmps29
      go_wp2
      go_ret
      exact ⟨_, rfl, RO.nil (H.out.num _ rfl rfl (rchg1 _ _ _ _) (fun vp vt hb => hb.set 0 _))⟩
  by_cases h6 : r = 127
  · subst h6
    rw [show refBetween s 127 = (s, []) from rfl]
    go_enter Try.func29, Try.ntmps29
    go_wp2
    go_ret
    exact ⟨_, rfl, RO.nil (RU.refl H.out)⟩
  · rw [show refBetween s r = ({ s with st := 0 }, []) by unfold refBetween; rw [if_neg hr, if_neg h4, if_neg h5, if_neg h6]]
    have e7 : (r == 127) = false := by simpa using h6
    obtain ⟨nc0, nc2, nc3, nc4, nc5, nf0, nf2, nf3, nf4, nf5⟩ := H.out.nums
    clear h6
    go_enter Try.func29, Try.ntmps29
    go_wp2
    go_ret
    exact ⟨_, rfl, RO.nil (H.out.num _ rfl rfl (rchg1 _ _ _ _) (fun vp vt hb => hb.set 0 _))⟩
end Go.Proofs.Ytaficleoimfejaa
