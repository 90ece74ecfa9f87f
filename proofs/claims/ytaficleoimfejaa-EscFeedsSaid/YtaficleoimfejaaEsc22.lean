/-
  Chapter 8, the document's answer: control, but its event.
-/
import Derived.Test.YtaficleoimfejaaEsc21
namespace Go.Proofs.Ytaficleoimfejaa
open Go.RowKit
set_option linter.unusedVariables false
set_option linter.unusedSimpArgs false
attribute [local go_sem ↓] run_min_two run_max_two


theorem RR.rows {w w' : World} {x : Nat} {s : RS} {F : Nat → Prop} {vp vt : Value} (hb : Blk w x 29 (rcs s.st vp s.any s.sp s.priv s.inter vt)) (h1 : Own w 3 1 vp s.params.length (intI s.params))
    (h2 : Own w 21 1 vt s.text.length (runesV s.text)) (h6 : ∀ k, F k ↔ (k = x ∨ blkOf vp k ∨ blkOf vt k))
    (s' : RS) (vp' vt' : Value) (hb' : Blk w' x 29 (rcs s'.st vp' s'.any s'.sp s'.priv s'.inter vt')) (h1' : Own w' 3 1 vp' s'.params.length (intI s'.params))
    (h2' : Own w' 21 1 vt' s'.text.length (runesV s'.text)) (hc : Chg w w' (fun y => y = x ∨ blkOf vp y ∨ blkOf vt y)) (hf1 : ∀ y, blkOf vp' y → blkOf vp y ∨ w.heap.size ≤ y) (hf2 : ∀ y, blkOf vt' y → blkOf vt y ∨ w.heap.size ≤ y) : RU x s' F w w' := by
  refine ⟨hc.mono (fun y _ hy => (h6 y).2 hy), fun y => y = x ∨ blkOf vp' y ∨ blkOf vt' y, ⟨vp', vt', hb', h1', h2', fun _ => Iff.rfl⟩, fun y hy => ?_⟩
  rcases hy with hy | hy | hy
  · exact .inl ((h6 y).2 (.inl hy))
  · exact (hf1 y hy).imp (fun h => (h6 y).2 (.inr (.inl h))) id
  · exact (hf2 y hy).imp (fun h => (h6 y).2 (.inr (.inr h))) id
def refDigit (s : RS) (r : Int) : RS := { s with any := true, params := s.params.set (s.params.length - 1) (mnI (10 * mxI (s.params.getD (s.params.length - 1) 0) 0 + (r - 48)) 9999) }
def refControl (s : RS) (r : Int) : RS × List Ev :=
  if r < 32 then (s, [ev0 2 r 0 0]) else if r ≤ 47 then ({ s with sp := s.sp || (s.inter != 0), inter := r }, [])
  else if r ≤ 57 then (refDigit { s with sp := s.sp || (s.inter != 0) } r, [])
  else if r ≤ 59 then ({ s with sp := s.sp || (s.inter != 0), any := true, params := s.params ++ [-1] }, [])
  else if r ≤ 63 then ({ s with sp := s.sp || s.any || (s.priv != 0) || (s.inter != 0), priv := r }, [])
  else if r ≤ 126 then ({ s with st := 0 }, if s.sp = true then [] else [⟨4, 0, if s.any = true then s.params.take 16 else [], s.priv, s.inter, r, .empty⟩])
  else if r = 127 then (s, []) else ({ s with st := 0 }, [])
set_option maxRecDepth 100000 in
set_option maxHeartbeats 4000000 in
theorem refcontrol_a {w : World} {x : Nat} {s : RS} {F : Nat → Prop} (h : RR w x s F) (hl : s.params.length ≤ 1000000) (r : Int) (hr : r ≤ 47 ∨ 126 < r) :
    Calls Try.prog 30 #[.pointer (some ⟨x, 0, none⟩), .int .i32 r] w fun e w' => ∃ v, e = .returned v ∧ RO x (refControl s r).1 (refControl s r).2 F w w' v := by
  have H := Lib.hid h
  clear h
  have h' := H.out
  obtain ⟨vp, vt, hb, i1, i2, i6⟩ := h'
  obtain ⟨ao, cap, rfl, hcap, hmax, hnone, hsome⟩ := i1.form
  have hp1 : w.cell? ⟨x, 1, none⟩ = some (.slice ao s.params.length cap) := by rw [hb.cell]; rfl
  have hk0 : IntKind.i64.wrap ((s.params.length : Int) - 1) = (s.params.length : Int) - 1 := wraps_i64 _ (by omega) (by omega)
  clear hb i1 i2 i6 hnone hsome hcap hmax hl
  by_cases h32 : r < 32
  · rw [show refControl s r = (s, [ev0 2 r 0 0]) by unfold refControl; rw [if_pos h32]]
    go_enter Try.func30, Try.ntmps30
    go_wp2
    go_ret
    exact ⟨_, rfl, RO.lit (RU.refl H.out) (ev0 2 r 0 0) rfl _ rfl _ rfl⟩
  by_cases h47 : r ≤ 47
  · rw [show refControl s r = ({ s with sp := s.sp || (s.inter != 0), inter := r }, []) by unfold refControl; rw [if_neg h32, if_pos h47]]
    obtain ⟨nc0, nc2, nc3, nc4, nc5, nf0, nf2, nf3, nf4, nf5⟩ := H.out.nums
    go_enter Try.func30, Try.ntmps30
    go_upto_region 6 with (fail)
    go_cut [] (fun wx => wx = w.setCell ⟨x, 3, none⟩ (.bool (s.sp || (s.inter != 0))))
    case first =>
      obtain ⟨st, params, any, sp, priv, inter, text⟩ := s
      cases sp with
      | true =>
        go_wp2
        go_meet
        rfl
      | false =>
        by_cases h0 : inter = 0
        · subst h0
          go_wp2
          go_meet
          rfl
        · have e0 : (inter != 0) = true := by simpa using h0
          clear h0
          go_wp2
          go_meet
          simp [e0]
    case rest =>
    obtain rfl := hcut
    go_wp2
    go_ret
    exact ⟨_, rfl, RO.nil (H.out.num _ rfl rfl (rchg2 _ _ _ _ _ _) (fun vp vt hb => (hb.set 3 _).set 5 _))⟩
  by_cases h127 : r = 127
  · subst h127
    rw [show refControl s 127 = (s, []) from rfl]
    go_enter Try.func30, Try.ntmps30
    go_wp2
    go_ret
    exact ⟨_, rfl, RO.nil (RU.refl H.out)⟩
  · rw [show refControl s r = ({ s with st := 0 }, []) by unfold refControl; rw [if_neg h32, if_neg h47, if_neg (by omega), if_neg (by omega), if_neg (by omega), if_neg (by omega), if_neg h127]]
    have e7 : (r == 127) = false := by simpa using h127
    have e9 : (r == 59) = false := by simp; omega
    have e8 : (r == 58) = false := by simp; omega
    have q1 : ¬ r ≤ 57 := by omega
    have q2 : ¬ r ≤ 63 := by omega
    have q3 : ¬ r ≤ 126 := by omega
    obtain ⟨nc0, nc2, nc3, nc4, nc5, nf0, nf2, nf3, nf4, nf5⟩ := H.out.nums
    clear h127
    go_enter Try.func30, Try.ntmps30
    go_wp2
    go_ret
    exact ⟨_, rfl, RO.nil (H.out.num _ rfl rfl (rchg1 _ _ _ _) (fun vp vt hb => hb.set 0 _))⟩
end Go.Proofs.Ytaficleoimfejaa
