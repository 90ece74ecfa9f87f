/-
  Chapter 8: the signs behind 1B; behind an intermediate one.
-/
import Derived.Test.YtaficleoimfejaaEsc2
namespace Go.Proofs.Ytaficleoimfejaa
open Go.RowKit
set_option linter.unusedVariables false
set_option linter.unusedSimpArgs false

def escapeS (s : PS) (r : Int) : PS :=
  if r < 32 then tellS s (ev0 2 r 0 0) else if r = 127 then s else if r = 91 then goesS s 3 else if r = 93 then goesS s 4
  else if r = 80 ∨ r = 88 ∨ r = 94 ∨ r = 95 then goesS s 5 else if r < 48 then { s with st := 2, inter := r }
  else if r < 127 then goesS (tellS s (ev0 3 0 0 r)) 0 else goesS s 0
theorem chg1 (w : World) (p i : Nat) (u : Value) : Chg w (w.setCell ⟨p, i, none⟩ u) (fun x => x = p) := Chg.setCell (F := fun x => x = p) (p := ⟨p, i, none⟩) (Chg.refl w _) (.inl rfl) u
theorem chg2 (w : World) (p i j : Nat) (u v : Value) : Chg w ((w.setCell ⟨p, i, none⟩ u).setCell ⟨p, j, none⟩ v) (fun x => x = p) := Chg.setCell (F := fun x => x = p) (p := ⟨p, j, none⟩) (chg1 w p i u) (.inl rfl) v
/-- A parser's own numbers changed in place. -/
theorem PR.num {w w' : World} {p : Nat} {s : PS} {F G : Nat → Prop} (h : PR w p s F G) (s' : PS) (hp : s'.params = s.params) (ht : s'.text = s.text) (ho : s'.out = s.out) (hc : Chg w w' (fun x => x = p))
    (hb : ∀ vp vt vo, Blk w p 49 (pcs s.st vp s.told s.priv s.inter s.sp vt vo) → Blk w' p 49 (pcs s'.st vp s'.told s'.priv s'.inter s'.sp vt vo)) : UP p s' F G w w' := by
  obtain ⟨q, vp, vt, vo, hb0, h1, h2, h3, h4, h5, h6⟩ := h
  have hp0 : F p := (h6 p).2 (.inl rfl)
  refine ⟨hc.mono (fun x _ hx => by subst hx; exact hp0), F, G, ⟨q, vp, vt, vo, hb _ _ _ hb0, ?_, ?_, ?_, by rw [ho]; exact h4, ?_, h6⟩, fun _ h => .inl h, fun _ h => .inl h⟩
  · rw [hp]; exact h1.kept hc (fun k hk e => by subst e; exact h1.ne hb0 (by decide) hk)
  · rw [ht]; exact h2.kept hc (fun k hk e => by subst e; exact h2.ne hb0 (by decide) hk)
  · exact h3.kept hc (fun k hk e => by subst e; exact h3.ne hb0 (by decide) hk)
  · exact fun x hx => ⟨(h5 x hx).1.kept hc (fun k hk e => by subst e; exact ((h5 x hx).2 _ hk).2.1 hp0), fun k hk => ⟨((h5 x hx).2 k hk).1, ((h5 x hx).2 k hk).2.1, Nat.lt_of_lt_of_le ((h5 x hx).2 k hk).2.2 hc.size⟩⟩
/-- The cells of a parser's own numbers. -/
theorem PR.nums {w : World} {p : Nat} {s : PS} {F G : Nat → Prop} (h : PR w p s F G) : w.cell? ⟨p, 0, none⟩ = some (.int .i64 s.st) ∧ w.cell? ⟨p, 2, none⟩ = some (.bool s.told) ∧ w.cell? ⟨p, 3, none⟩ = some (.int .i32 s.priv) ∧ w.cell? ⟨p, 4, none⟩ = some (.int .i32 s.inter) ∧ w.cell? ⟨p, 5, none⟩ = some (.bool s.sp) ∧
    w.frozen? ⟨p, 0, none⟩ = false ∧ w.frozen? ⟨p, 2, none⟩ = false ∧ w.frozen? ⟨p, 3, none⟩ = false ∧ w.frozen? ⟨p, 4, none⟩ = false ∧ w.frozen? ⟨p, 5, none⟩ = false := by
  obtain ⟨q, vp, vt, vo, hb, _⟩ := h
  exact ⟨by rw [hb.cell]; rfl, by rw [hb.cell]; rfl, by rw [hb.cell]; rfl, by rw [hb.cell]; rfl, by rw [hb.cell]; rfl, hb.free 0, hb.free 2, hb.free 3, hb.free 4, hb.free 5⟩
set_option maxHeartbeats 4000000 in
theorem escape_any {w : World} {p : Nat} {s : PS} {F G : Nat → Prop} (h : PR w p s F G) (hn : s.out.length ≤ 1000000) (r : Int) :
    Calls Try.prog 23 #[.pointer (some ⟨p, 0, none⟩), .int .i32 r] w fun e w' => e = .returned (.tuple #[]) ∧ UP p (escapeS s r) F G w w' := by
  have H := Lib.hid h
  clear h
  by_cases hr : r < 32
  · rw [show escapeS s r = tellS s (ev0 2 r 0 0) by unfold escapeS; rw [if_pos hr]]
    go_enter Try.func23, Try.ntmps23
    go_wp2_with fail
    go_at_call 33
    refine (low_lt H.out hn _ (by omega)).mono ?_
    rintro e w1 ⟨rfl, hU⟩
    have HU := Lib.hid hU
    clear hU
    go_wp2
    go_end0
    exact ⟨rfl, HU.out⟩
  by_cases h0 : r = 127
  · subst h0
    rw [show escapeS s 127 = s from rfl]
    go_enter Try.func23, Try.ntmps23
    go_wp2_with fail
    go_at_call 33
    refine (low_ge _ _ _ (by omega)).mono ?_
    rintro e w1 ⟨rfl, rfl⟩
    go_wp2
    go_end0
    exact ⟨rfl, UP.refl H.out⟩
  by_cases h1 : r = 91
  · subst h1
    rw [show escapeS s 91 = goesS s 3 from rfl]
    go_enter Try.func23, Try.ntmps23
    go_wp2_with fail
    go_at_call 33
    refine (low_ge _ _ _ (by omega)).mono ?_
    rintro e w1 ⟨rfl, rfl⟩
    go_wp2_with fail
    go_at_call 21
    refine (goes_any H.out 3).mono ?_
    rintro e w2 ⟨rfl, hU⟩
    have HU := Lib.hid hU
    clear hU
    go_wp2
    go_end0
    exact ⟨rfl, HU.out⟩
  by_cases h2 : r = 93
  · subst h2
    rw [show escapeS s 93 = goesS s 4 from rfl]
    go_enter Try.func23, Try.ntmps23
    go_wp2_with fail
    go_at_call 33
    refine (low_ge _ _ _ (by omega)).mono ?_
    rintro e w1 ⟨rfl, rfl⟩
    go_wp2_with fail
    go_at_call 21
    refine (goes_any H.out 4).mono ?_
    rintro e w2 ⟨rfl, hU⟩
    have HU := Lib.hid hU
    clear hU
    go_wp2
    go_end0
    exact ⟨rfl, HU.out⟩
  by_cases h3 : r = 80 ∨ r = 88 ∨ r = 94 ∨ r = 95
  · rcases h3 with h3 | h3 | h3 | h3
    all_goals
      subst h3
      rw [show escapeS s _ = goesS s 5 from rfl]
      go_enter Try.func23, Try.ntmps23
      go_wp2_with fail
      go_at_call 33
      refine (low_ge _ _ _ (by omega)).mono ?_
      rintro e w1 ⟨rfl, rfl⟩
      go_wp2_with fail
      go_at_call 21
      refine (goes_any H.out 5).mono ?_
      rintro e w2 ⟨rfl, hU⟩
      have HU := Lib.hid hU
      clear hU
      go_wp2
      go_end0
      exact ⟨rfl, HU.out⟩
  by_cases h4 : r < 48
  · rw [show escapeS s r = { s with st := 2, inter := r } by unfold escapeS; rw [if_neg hr, if_neg h0, if_neg h1, if_neg h2, if_neg h3, if_pos h4]]
    have e0 : (r == 127) = false := by simpa using h0
    have e1 : (r == 91) = false := by simpa using h1
    have e2 : (r == 93) = false := by simpa using h2
    have e3 : (r == 80) = false := by simp; omega
    have e4 : (r == 88) = false := by simp; omega
    have e5 : (r == 94) = false := by simp; omega
    have e6 : (r == 95) = false := by simp; omega
    clear h0 h1 h2 h3
    obtain ⟨nc0, nc2, nc3, nc4, nc5, nf0, nf2, nf3, nf4, nf5⟩ := H.out.nums
    go_enter Try.func23, Try.ntmps23
    go_wp2_with fail
    go_at_call 33
    refine (low_ge _ _ _ (by omega)).mono ?_
    rintro e w1 ⟨rfl, rfl⟩
    go_wp2
    go_end0
    exact ⟨rfl, PR.num H.out _ rfl rfl rfl (chg2 _ _ _ _ _ _) (fun vp vt vo hb => (hb.set 0 _).set 4 _)⟩
  by_cases h5 : r < 127
  · rw [show escapeS s r = goesS (tellS s (ev0 3 0 0 r)) 0 by unfold escapeS; rw [if_neg hr, if_neg h0, if_neg h1, if_neg h2, if_neg h3, if_neg h4, if_pos h5]]
    have e0 : (r == 127) = false := by simpa using h0
    have e1 : (r == 91) = false := by simpa using h1
    have e2 : (r == 93) = false := by simpa using h2
    have e3 : (r == 80) = false := by simp; omega
    have e4 : (r == 88) = false := by simp; omega
    have e5 : (r == 94) = false := by simp; omega
    have e6 : (r == 95) = false := by simp; omega
    clear h0 h1 h2 h3
    go_enter Try.func23, Try.ntmps23
    go_wp2_with fail
    go_at_call 33
    refine (low_ge _ _ _ (by omega)).mono ?_
    rintro e w1 ⟨rfl, rfl⟩
    go_wp2_with fail
    go_at_call 34
    refine (tells_any H.out hn 3 0 0 0 r .empty).mono ?_
    rintro e w2 ⟨rfl, hU⟩
    have HU := Lib.hid hU
    clear hU
    obtain ⟨hc1, F1, G1, hP1, hF1, hG1⟩ := HU.out
    have H0 := H
    have H := Lib.hid hP1
    have HS : Hid (∀ w3 s2, UP p s2 F1 G1 w2 w3 → UP p s2 F G w1 w3) := Lib.hid (fun w3 s2 h => UP.step hc1 hF1 hG1 h)
    clear hc1 hP1 hF1 hG1 HU H0
    go_wp2_with fail
    go_at_call 21
    refine (goes_any H.out 0).mono ?_
    rintro e w2 ⟨rfl, hU⟩
    have HU := Lib.hid hU
    clear hU
    go_wp2
    go_end0
    exact ⟨rfl, HS.out _ _ HU.out⟩
  · rw [show escapeS s r = goesS s 0 by unfold escapeS; rw [if_neg hr, if_neg h0, if_neg h1, if_neg h2, if_neg h3, if_neg h4, if_neg h5]]
    have e0 : (r == 127) = false := by simpa using h0
    have e1 : (r == 91) = false := by simpa using h1
    have e2 : (r == 93) = false := by simpa using h2
    have e3 : (r == 80) = false := by simp; omega
    have e4 : (r == 88) = false := by simp; omega
    have e5 : (r == 94) = false := by simp; omega
    have e6 : (r == 95) = false := by simp; omega
    clear h0 h1 h2 h3
    go_enter Try.func23, Try.ntmps23
    go_wp2_with fail
    go_at_call 33
    refine (low_ge _ _ _ (by omega)).mono ?_
    rintro e w1 ⟨rfl, rfl⟩
    go_wp2_with fail
    go_at_call 21
    refine (goes_any H.out 0).mono ?_
    rintro e w2 ⟨rfl, hU⟩
    have HU := Lib.hid hU
    clear hU
    go_wp2
    go_end0
    exact ⟨rfl, HU.out⟩
end Go.Proofs.Ytaficleoimfejaa
