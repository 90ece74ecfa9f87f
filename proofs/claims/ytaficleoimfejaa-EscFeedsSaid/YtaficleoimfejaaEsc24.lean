/-
  Chapter 8, the document's answer: control, own signs and the event.
-/
import Derived.Test.YtaficleoimfejaaEsc23
namespace Go.Proofs.Ytaficleoimfejaa
open Go.RowKit
set_option linter.unusedVariables false
set_option linter.unusedSimpArgs false
attribute [local go_sem ↓] run_min_two run_max_two run_cut_h



set_option maxRecDepth 100000 in
set_option maxHeartbeats 4000000 in
theorem refcontrol_d {w : World} {x : Nat} {s : RS} {F : Nat → Prop} (h : RR w x s F) (hl : s.params.length ≤ 1000000) (r : Int) (h60 : 60 ≤ r) (h63 : r ≤ 63) :
    Calls Try.prog 30 #[.pointer (some ⟨x, 0, none⟩), .int .i32 r] w fun e w' => ∃ v, e = .returned v ∧ RO x (refControl s r).1 (refControl s r).2 F w w' v := by
  have H := Lib.hid h
  clear h
  have h' := H.out
  obtain ⟨vp, vt, hb, i1, i2, i6⟩ := h'
  obtain ⟨ao, cap, rfl, hcap, hmax, hnone, hsome⟩ := i1.form
  have hp1 : w.cell? ⟨x, 1, none⟩ = some (.slice ao s.params.length cap) := by rw [hb.cell]; rfl
  have hk0 : IntKind.i64.wrap ((s.params.length : Int) - 1) = (s.params.length : Int) - 1 := wraps_i64 _ (by omega) (by omega)
  clear hb i1 i2 i6 hnone hsome hcap hmax hl
  have q0 : ¬ r < 32 := by omega
  have q1 : ¬ r ≤ 47 := by omega
  have q2 : ¬ r ≤ 57 := by omega
  have q3 : (r == 59) = false := by simp; omega
  have q4 : (r == 58) = false := by simp; omega
  rw [show refControl s r = ({ s with sp := s.sp || s.any || (s.priv != 0) || (s.inter != 0), priv := r }, []) by unfold refControl; rw [if_neg q0, if_neg q1, if_neg q2, if_neg (by omega), if_pos h63]]
  obtain ⟨st, params, any, sp, priv, inter, text⟩ := s
  cases sp with
  | true =>
    obtain ⟨nc0, nc2, nc3, nc4, nc5, nf0, nf2, nf3, nf4, nf5⟩ := H.out.nums
    go_enter Try.func30, Try.ntmps30
    go_wp2
    go_ret
    exact ⟨_, rfl, RO.nil (H.out.num _ rfl rfl (rchg2 _ _ _ _ _ _) (fun vp vt hb => (hb.set 3 _).set 4 _))⟩
  | false =>
    cases any with
    | true =>
      obtain ⟨nc0, nc2, nc3, nc4, nc5, nf0, nf2, nf3, nf4, nf5⟩ := H.out.nums
      go_enter Try.func30, Try.ntmps30
      go_wp2
      go_ret
      exact ⟨_, rfl, RO.nil (H.out.num _ rfl rfl (rchg2 _ _ _ _ _ _) (fun vp vt hb => (hb.set 3 _).set 4 _))⟩
    | false =>
      by_cases h3 : priv = 0
      · subst h3
        by_cases h4 : inter = 0
        · subst h4
          obtain ⟨nc0, nc2, nc3, nc4, nc5, nf0, nf2, nf3, nf4, nf5⟩ := H.out.nums
          go_enter Try.func30, Try.ntmps30
          go_wp2
          go_ret
          exact ⟨_, rfl, RO.nil (H.out.num _ rfl rfl (rchg2 _ _ _ _ _ _) (fun vp vt hb => (hb.set 3 _).set 4 _))⟩
        · have e4 : (inter != 0) = true := by simpa using h4
          simp only [e4, Bool.false_or, Bool.or_false, Bool.true_or, Bool.or_true]
          clear h4
          obtain ⟨nc0, nc2, nc3, nc4, nc5, nf0, nf2, nf3, nf4, nf5⟩ := H.out.nums
          go_enter Try.func30, Try.ntmps30
          go_wp2
          go_ret
          exact ⟨_, rfl, RO.nil (H.out.num _ rfl rfl (rchg2 _ _ _ _ _ _) (fun vp vt hb => (hb.set 3 _).set 4 _))⟩
      · have e3 : (priv != 0) = true := by simpa using h3
        simp only [e3, Bool.false_or, Bool.or_false, Bool.true_or, Bool.or_true]
        clear h3
        obtain ⟨nc0, nc2, nc3, nc4, nc5, nf0, nf2, nf3, nf4, nf5⟩ := H.out.nums
        go_enter Try.func30, Try.ntmps30
        go_wp2
        go_ret
        exact ⟨_, rfl, RO.nil (H.out.num _ rfl rfl (rchg2 _ _ _ _ _ _) (fun vp vt hb => (hb.set 3 _).set 4 _))⟩
end Go.Proofs.Ytaficleoimfejaa
