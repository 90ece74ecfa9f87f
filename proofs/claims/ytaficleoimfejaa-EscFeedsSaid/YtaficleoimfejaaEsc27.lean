/-
  Chapter 8, the document's answer: told; one sign.
-/
import Derived.Test.YtaficleoimfejaaEsc25
import Derived.Test.YtaficleoimfejaaEsc26
namespace Go.Proofs.Ytaficleoimfejaa
open Go.RowKit
set_option linter.unusedVariables false
set_option linter.unusedSimpArgs false



theorem RU.kept {x : Nat} {s : RS} {F : Nat → Prop} {w w1 w2 : World} (h : RU x s F w w1) (hc : Chg w1 w2 nob) : RU x s F w w2 := by
  obtain ⟨hc1, F1, hP, hF⟩ := h
  exact ⟨hc1.trans hc (fun _ _ h => h.elim), F1, hP.kept hc (fun _ _ => id), hF⟩
def refTold (s : RS) : RS × List Ev := ({ s with st := 0 }, [⟨5, 0, [], 0, 0, 0, runesBytes s.text⟩])
set_option maxRecDepth 100000 in
set_option maxHeartbeats 4000000 in
theorem told_any {w : World} {x : Nat} {s : RS} {F : Nat → Prop} (h : RR w x s F) (hl : s.text.length ≤ 1000000) :
    Calls Try.prog 31 #[.pointer (some ⟨x, 0, none⟩)] w fun e w' => ∃ v, e = .returned v ∧ RO x (refTold s).1 (refTold s).2 F w w' v := by
  have H := Lib.hid h
  have hU : RU x { s with st := 0 } F w (w.setCell ⟨x, 0, none⟩ (.int .i64 0)) := h.num _ rfl rfl (rchg1 _ _ _ _) (fun vp vt hb => hb.set 0 _)
  obtain ⟨vp, vt, hb, i1, i2, i6⟩ := h
  have hx6 : (w.setCell ⟨x, 0, none⟩ (.int .i64 0)).cell? ⟨x, 6, none⟩ = some vt := by rw [(hb.set 0 _).cell]; rfl
  have hx0 : w.cell? ⟨x, 0, none⟩ = some (.int .i64 s.st) := by rw [hb.cell]; rfl
  have hf0 := hb.free 0
  have hr := (Own.setOther (p := ⟨x, 0, none⟩) i2 (fun e => i2.ne hb (by decide) e) (.int .i64 0)).rd
  have HR := Lib.hid hr
  have HU := Lib.hid hU
  clear hb i1 i2 i6 hr hU
  go_enter Try.func31, Try.ntmps31
  go_wp2_with fail
  go_at_call 38
  refine (Enc.refEncode_any _ _ s.text (by simpa [runesV] using HR.out) hl).mono ?_
  rintro e w2 ⟨v, rfl, ho, hc, -⟩
  have hcv := rd_string w2 v (Enc.encL s.text) ho.rd
  rw [Enc.runes_enc] at hcv
  have HU2 := Lib.hid (HU.out.kept hc)
  obtain ⟨a2, c2, rfl, _⟩ := ho.form
  clear ho hc hx6 hx0 hf0 HU
  go_wp2
  go_ret
  exact ⟨_, rfl, RO.lit HU2.out ⟨5, 0, [], 0, 0, 0, runesBytes s.text⟩ rfl _ rfl _ rfl⟩

def refOne (s : RS) (r : Int) : RS × List Ev :=
  if r = 24 ∨ r = 26 then ({ s with st := 0 }, [])
  else if r = 27 then (if s.st = 4 then ({ s with st := 6 }, []) else if s.st = 5 then ({ s with st := 7 }, []) else ({ s with st := 1 }, []))
  else if s.st = 0 then (s, if r < 32 then [ev0 2 r 0 0] else if 127 ≤ r ∧ r ≤ 159 then [] else [ev0 1 r 0 0])
  else if s.st = 1 then refEscape s r else if s.st = 2 then refBetween s r else if s.st = 3 then refControl s r
  else if s.st = 4 then (if r = 7 then refTold s else if r < 32 ∨ r = 127 then (s, []) else if s.text.length < 128 then ({ s with text := s.text ++ [r] }, []) else (s, []))
  else if s.st = 6 then (if r = 92 then refTold s else refEscape s r) else if s.st = 7 then (if r = 92 then ({ s with st := 0 }, []) else refEscape s r) else (s, [])
structure RSok (s : RS) (n : Nat) : Prop where
  st0 : 0 ≤ s.st
  st7 : s.st ≤ 7
  ctl : s.st = 3 → s.params ≠ []
  plen : s.params.length ≤ n + 1
  tlen : s.text.length ≤ 128
  rng : ∀ x ∈ s.params, -1 ≤ x ∧ x ≤ 9999
theorem refcontrol_any {w : World} {x : Nat} {s : RS} {F : Nat → Prop} (h : RR w x s F) (hl : s.params.length ≤ 1000000) (hp : s.params ≠ []) (hrg : ∀ x ∈ s.params, -1 ≤ x ∧ x ≤ 9999) (r : Int) :
    Calls Try.prog 30 #[.pointer (some ⟨x, 0, none⟩), .int .i32 r] w fun e w' => ∃ v, e = .returned v ∧ RO x (refControl s r).1 (refControl s r).2 F w w' v := by
  by_cases h1 : r ≤ 47 ∨ 126 < r
  · exact refcontrol_a h hl r h1
  · by_cases h2 : r ≤ 57
    · exact refcontrol_b h hl hp hrg r (by omega) h2
    · by_cases h3 : r ≤ 59
      · exact refcontrol_c h hl r (by omega) h3
      · by_cases h4 : r ≤ 63
        · exact refcontrol_d h hl r (by omega) h4
        · exact refcontrol_e h hl hp r (by omega) (by omega)
end Go.Proofs.Ytaficleoimfejaa
