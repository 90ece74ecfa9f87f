/-
  Chapter 8: a sign of a CSI; of a command.
-/
import Derived.Test.YtaficleoimfejaaEsc6
namespace Go.Proofs.Ytaficleoimfejaa
open Go.RowKit
set_option linter.unusedVariables false
set_option linter.unusedSimpArgs false


def csiE (s : PS) (r : Int) : Ev := ⟨4, 0, if s.told then s.params.take 16 else [], s.priv, s.inter, r, .empty⟩
def controlS (s : PS) (r : Int) : PS :=
  if r < 32 then tellS s (ev0 2 r 0 0) else if r = 127 then s else if r < 48 then { s with sp := s.sp || decide (0 < s.inter), inter := r }
  else if r < 64 then partS s r else if r < 127 ∧ s.sp = false then goesS (tellS s (csiE s r)) 0 else goesS s 0
theorem Own.cut {w : World} {e : TypeId} {ao : Option Addr} {n cap k : Nat} {xs : List Value} (h : Own w e 1 (.slice ao n cap) n xs) (hk : k ≤ n) : Own w e 1 (.slice ao k cap) k (xs.take k) := by
  have hx : xs.length = n := by simpa using h.1
  refine ⟨by simp [hx]; omega, ?_⟩
  rcases h.2 with ⟨hv, hn⟩ | ⟨g, c, cur, hv, hg, hh, h1, h2, h3, h4⟩
  · cases hv
    exact .inl ⟨by rw [show k = 0 by omega], by omega⟩
  · cases hv
    refine .inr ⟨g, cap, cur, rfl, hg, hh, by omega, h2, h3, ?_⟩
    rw [← h4, List.take_take]; simp; omega
/-- An event whose params lie in the parser's own row is told, and then the parser goes: that row is the event's. -/
theorem tellgo {w w1 w2 w3 : World} {p : Nat} {s : PS} {F G : Nat → Prop} {q : List (Ev × Value)} {vp vt vo vo' vp' pv : Value} (hb : Blk w p 49 (pcs s.st vp s.told s.priv s.inter s.sp vt vo)) (h1 : Own w 3 1 vp s.params.length (intI s.params))
    (h2 : Own w 21 1 vt s.text.length (runesV s.text)) (h3 : Own w 41 7 vo q.length (q.flatMap evc)) (h4 : q.map Prod.fst = s.out)
    (h5 : ∀ x ∈ q, Rd w 1 x.2 x.1.ps.length (intI x.1.ps) ∧ ∀ k, blkOf x.2 k → G k ∧ ¬ F k ∧ k < w.heap.size) (h6 : ∀ k, F k ↔ (k = p ∨ blkOf vp k ∨ blkOf vt k ∨ blkOf vo k))
    (ev : Ev) (hr : Rd w 1 pv ev.ps.length (intI ev.ps)) (hpv : ∀ k, blkOf pv k → blkOf vp k) (hc1 : Chg w w1 nob)
    (ho2 : Own w2 41 7 vo' (q.length + 1) (q.flatMap evc ++ evc (ev, pv))) (hc2 : Chg w1 w2 (fun x => x = p ∨ blkOf vo x)) (hf2 : ∀ x, blkOf vo' x → blkOf vo x ∨ w1.heap.size ≤ x)
    (hb3 : Blk w3 p 49 (pcs 0 vp' false 0 0 false (.slice none 0 0) vo')) (ho3 : Own w3 3 1 vp' 1 (intI [-1])) (hc3 : Chg w2 w3 (fun x => x = p)) (hf3 : ∀ x, blkOf vp' x → w2.heap.size ≤ x) :
    UP p (goesS (tellS s ev) 0) F G w w3 := by
  have hin : ∀ k, (k = p ∨ blkOf vo k) → F k := fun k hk => (h6 k).2 (by rcases hk with h | h; exact .inl h; exact .inr (.inr (.inr h)))
  have hcc : Chg w w3 (fun x => x = p ∨ blkOf vo x) := (((hc1.mono (fun _ _ h => h.elim) : Chg w w1 (fun x => x = p ∨ blkOf vo x)).trans hc2 (fun _ _ h => h))).trans hc3 (fun _ _ h => .inl h)
  have hs1 := hc1.size
  have hs2 := hc2.size
  have hs3 := hc3.size
  have hop : ∀ k, blkOf vo' k → k ≠ p := fun k hk e => by
    subst e
    rcases hf2 k hk with h | h
    · exact h3.ne hb (by decide) h
    · have := hb.lt; omega
  have hfix : ∀ (x : Ev × Value), (Rd w 1 x.2 x.1.ps.length (intI x.1.ps)) → (∀ k, blkOf x.2 k → (G k ∨ F k) ∧ k < w.heap.size ∧ k ≠ p ∧ ¬ blkOf vo k) →
      Rd w3 1 x.2 x.1.ps.length (intI x.1.ps) ∧ ∀ k, blkOf x.2 k → (G k ∨ F k) ∧ ¬ (k = p ∨ blkOf vp' k ∨ blkOf (.slice none 0 0) k ∨ blkOf vo' k) ∧ k < w3.heap.size := fun x hx hk => by
    refine ⟨hx.kept hcc (fun y hy h => ?_), fun y hy => ⟨(hk y hy).1, fun h => ?_, by have := (hk y hy).2.1; omega⟩⟩
    · rcases h with h | h
      · exact (hk y hy).2.2.1 h
      · exact (hk y hy).2.2.2 h
    · have hlt := (hk y hy).2.1
      rcases h with h | h | h | h
      · exact (hk y hy).2.2.1 h
      · have := hf3 y h; omega
      · cases h
      · rcases hf2 y h with h | h
        · exact (hk y hy).2.2.2 h
        · omega
  refine ⟨hcc.mono (fun x _ hx => hin x hx), fun x => x = p ∨ blkOf vp' x ∨ blkOf (.slice none 0 0) x ∨ blkOf vo' x, fun k => G k ∨ F k,
    ⟨q ++ [(ev, pv)], vp', .slice none 0 0, vo', hb3, ho3, World.ownsRow_nil _ _ _ _, ?_, by simp [tellS, goesS, h4], fun x hx => ?_, fun _ => Iff.rfl⟩, fun x hx => ?_, fun x hx => ?_⟩
  · have h := ho2.kept hc3 (fun k hk e => hop k hk e)
    simpa using h
  · rcases List.mem_append.1 hx with hx | hx
    · exact hfix x (h5 x hx).1 (fun k hk => ⟨.inl ((h5 x hx).2 k hk).1, ((h5 x hx).2 k hk).2.2, fun e => ((h5 x hx).2 k hk).2.1 (hin k (.inl e)), fun e => ((h5 x hx).2 k hk).2.1 (hin k (.inr e))⟩)
    · rw [List.mem_singleton] at hx
      subst hx
      exact hfix _ hr (fun k hk => ⟨.inr ((h6 k).2 (.inr (.inl (hpv k hk)))), h1.lt (hpv k hk), fun e => by subst e; exact h1.ne hb (by decide) (hpv k hk), fun e => h1.apart h3 (by decide) (hpv k hk) e⟩)
  · rcases hx with hx | hx | hx | hx
    · exact .inl (hin x (.inl hx))
    · exact .inr (by have := hf3 x hx; omega)
    · cases hx
    · rcases hf2 x hx with h | h
      · exact .inl (hin x (.inr h))
      · exact .inr (by omega)
  · rcases hx with h | h
    · exact .inl h
    · exact .inr (.inl h)
set_option maxRecDepth 100000 in
set_option maxHeartbeats 4000000 in
theorem control_any {w : World} {p : Nat} {s : PS} {F G : Nat → Prop} (h : PR w p s F G) (hn : s.out.length ≤ 1000000) (hp : s.params ≠ []) (hl : s.params.length ≤ 1000000) (hrg : ∀ x ∈ s.params, -1 ≤ x ∧ x ≤ 9999) (r : Int) :
    Calls Try.prog 25 #[.pointer (some ⟨p, 0, none⟩), .int .i32 r] w fun e w' => e = .returned (.tuple #[]) ∧ UP p (controlS s r) F G w w' := by
  have H := Lib.hid h
  have HP := Lib.hid hp
  have HRG := Lib.hid hrg
  clear h hp hrg
  by_cases hr : r < 32
  · rw [show controlS s r = tellS s (ev0 2 r 0 0) by unfold controlS; rw [if_pos hr]]
    go_enter Try.func25, Try.ntmps25
    go_wp2_with fail
    go_at_call 33
    refine (low_lt H.out hn _ (by omega)).mono ?_
    rintro e w1 ⟨rfl, hU⟩
    have HU := Lib.hid hU
    clear hU
    go_wp2
    go_end0
    exact ⟨rfl, HU.out⟩
  by_cases h0 : r = 127
  · subst h0
    rw [show controlS s 127 = s from rfl]
    go_enter Try.func25, Try.ntmps25
    go_wp2_with fail
    go_at_call 33
    refine (low_ge _ _ _ (by omega)).mono ?_
    rintro e w1 ⟨rfl, rfl⟩
    go_wp2
    go_end0
    exact ⟨rfl, UP.refl H.out⟩
  have e0 : (r == 127) = false := by simpa using h0
  by_cases h4 : r < 48
  · rw [show controlS s r = { s with sp := s.sp || decide (0 < s.inter), inter := r } by unfold controlS; rw [if_neg hr, if_neg h0, if_pos h4]]
    clear h0
    obtain ⟨st, params, told, priv, inter, sp, text, out⟩ := s
    cases sp with
    | true =>
      obtain ⟨nc0, nc2, nc3, nc4, nc5, nf0, nf2, nf3, nf4, nf5⟩ := H.out.nums
      go_enter Try.func25, Try.ntmps25
      go_wp2_with fail
      go_at_call 33
      refine (low_ge _ _ _ (by omega)).mono ?_
      rintro e w1 ⟨rfl, rfl⟩
      go_wp2
      go_end0
      exact ⟨rfl, PR.num H.out _ rfl rfl rfl (chg2 _ _ _ _ _ _) (fun vp vt vo hb => (hb.set 5 _).set 4 _)⟩
    | false =>
      by_cases h3 : 0 < inter
      · have e3 : decide (0 < inter) = true := by simpa using h3
        simp only [e3, Bool.false_or, Bool.or_false, Bool.true_or, Bool.or_true]
        clear e3
        obtain ⟨nc0, nc2, nc3, nc4, nc5, nf0, nf2, nf3, nf4, nf5⟩ := H.out.nums
        go_enter Try.func25, Try.ntmps25
        go_wp2_with fail
        go_at_call 33
        refine (low_ge _ _ _ (by omega)).mono ?_
        rintro e w1 ⟨rfl, rfl⟩
        go_wp2
        go_end0
        exact ⟨rfl, PR.num H.out _ rfl rfl rfl (chg2 _ _ _ _ _ _) (fun vp vt vo hb => (hb.set 5 _).set 4 _)⟩
      · skip
        obtain ⟨nc0, nc2, nc3, nc4, nc5, nf0, nf2, nf3, nf4, nf5⟩ := H.out.nums
        go_enter Try.func25, Try.ntmps25
        go_wp2_with fail
        go_at_call 33
        refine (low_ge _ _ _ (by omega)).mono ?_
        rintro e w1 ⟨rfl, rfl⟩
        go_wp2
        go_end0
        exact ⟨rfl, PR.num H.out _ rfl rfl rfl (chg2 _ _ _ _ _ _) (fun vp vt vo hb => (hb.set 5 _).set 4 _)⟩
  by_cases h6 : r < 64
  · rw [show controlS s r = partS s r by unfold controlS; rw [if_neg hr, if_neg h0, if_neg h4, if_pos h6]]
    clear h0
    go_enter Try.func25, Try.ntmps25
    go_wp2_with fail
    go_at_call 33
    refine (low_ge _ _ _ (by omega)).mono ?_
    rintro e w1 ⟨rfl, rfl⟩
    go_wp2_with fail
    go_at_call 35
    refine (part_any H.out HP.out hl HRG.out r (by omega) h6).mono ?_
    rintro e w2 ⟨rfl, hU⟩
    have HU := Lib.hid hU
    clear hU
    go_wp2
    go_end0
    exact ⟨rfl, HU.out⟩
  by_cases h5 : r < 127
  · obtain ⟨st, params, told, priv, inter, sp, text, out⟩ := s
    cases sp with
    | false =>
      rw [show controlS ⟨st, params, told, priv, inter, false, text, out⟩ r = goesS (tellS ⟨st, params, told, priv, inter, false, text, out⟩ (csiE ⟨st, params, told, priv, inter, false, text, out⟩ r)) 0 by unfold controlS; rw [if_neg hr, if_neg h0, if_neg h4, if_neg h6, if_pos ⟨h5, rfl⟩]]
      obtain ⟨nc0, nc2, nc3, nc4, nc5, nf0, nf2, nf3, nf4, nf5⟩ := H.out.nums
      clear h0
      have h' := H.out
      obtain ⟨q, vp, vt, vo, hb, i1, i2, i3, i4, i5, i6⟩ := h'
      obtain ⟨ao, cap, rfl, hcap, hmax, hnone, hsome⟩ := i1.form
      cases ao with
      | none =>
        exfalso
        exact HP.out (List.length_eq_zero_iff.1 (hnone rfl).1)
      | some a =>
        obtain ⟨g, rfl⟩ := hsome a rfl
        obtain ⟨m, hm⟩ : ∃ m : Nat, mnI (params.length : Int) 16 = (m : Int) := Int.eq_ofNat_of_zero_le (by unfold mnI; split <;> omega)
        have hmL : m ≤ params.length := by unfold mnI at hm; split at hm <;> omega
        have hmt : m = min 16 params.length := by unfold mnI at hm; split at hm <;> omega
        obtain ⟨ep, hep⟩ : ∃ ep : Value, (if told = true then Value.slice (some ⟨g, 0, none⟩) m cap else .slice none 0 0) = ep := ⟨_, rfl⟩
        have hpv : ∀ k, blkOf ep k → blkOf (.slice (some ⟨g, 0, none⟩) params.length cap) k := fun k hk => by rw [← hep] at hk; split at hk; exact hk; cases hk
        have hep2 : ∃ a l c, ep = .slice a l c := by rw [← hep]; split <;> exact ⟨_, _, _, rfl⟩
        have hrd : Rd w 1 ep (csiE ⟨st, params, told, priv, inter, false, text, out⟩ r).ps.length (intI (csiE ⟨st, params, told, priv, inter, false, text, out⟩ r).ps) := by
          rw [← hep]
          cases told with
          | false => exact ⟨none, 0, rfl, Nat.le_refl _, rfl, fun j u hu => by simp [csiE, intI] at hu⟩
          | true =>
            have h := (i1.cut hmL).rd
            have e : (csiE ⟨st, params, true, priv, inter, false, text, out⟩ r).ps = params.take m := by
              show (if (true : Bool) = true then params.take 16 else []) = _
              rw [if_pos rfl, hmt]
              by_cases hc : 16 ≤ params.length
              · rw [Nat.min_eq_left hc]
              · rw [Nat.min_eq_right (by omega), List.take_of_length_le (by omega), List.take_length]
            rw [e]
            simpa [intI, List.map_take, hmL, Nat.min_eq_left hmL] using h
        have hq : q.length = out.length := by have h := congrArg List.length i4; simpa using h
        have hn' : q.length ≤ 1000000 := by rw [hq]; exact hn
        have HB := Lib.hid hb
        have I1 := Lib.hid i1
        have I2 := Lib.hid i2
        have I3 := Lib.hid i3
        have I4 := Lib.hid i4
        have I5 := Lib.hid i5
        have I6 := Lib.hid i6
        have HM := Lib.hid hm
        have HEP := Lib.hid hep
        have HPV := Lib.hid hpv
        have HRD := Lib.hid hrd
        have HN := Lib.hid hn'
        obtain ⟨ea, el, ec, rfl⟩ := hep2
        clear hb i1 i2 i3 i4 i5 i6 hnone hsome hm hep hpv hrd hmt hq hn'
        go_enter Try.func25, Try.ntmps25
        go_wp2_with fail
        go_at_call 33
        refine (low_ge _ _ _ (by omega)).mono ?_
        rintro e w1 ⟨rfl, rfl⟩
        go_wp2_with fail
        go_at_call 36
        refine (csi_lo _ p st priv inter told false vt vo g params.length cap m [] r HB.out HM.out hmL hcap hmax).mono ?_
        rw [HEP.out]
        rintro e w5 ⟨rfl, hc5⟩
        have HC5 := Lib.hid hc5
        have hb5 := Lib.hid (HB.out.kept hc5 id)
        have ho5 := Lib.hid (I3.out.kept hc5 (fun _ _ => id))
        clear hc5 nc0 nc2 nc3 nc4 nc5 nf0 nf2 nf3 nf4 nf5
        go_wp2_with fail
        go_at_call 34
        refine (tells_lo w5 p _ _ _ _ _ _ _ vo q.length _ 4 0 ea el ec priv inter r .empty hb5.out ho5.out HN.out).mono ?_
        rintro e w6 ⟨rfl, vo', hb6, ho6, hc6, hf6⟩
        have HB6 := Lib.hid hb6
        have HO6 := Lib.hid ho6
        have HC6 := Lib.hid hc6
        have HF6 := Lib.hid hf6
        clear hb6 ho6 hc6 hf6
        go_wp2_with fail
        go_at_call 21
        refine (goes_lo w6 p _ _ _ _ _ _ _ vo' 0 HB6.out).mono ?_
        rintro e w7 ⟨rfl, vp', hb7, ho7, hc7, hf7⟩
        have HB7 := Lib.hid hb7
        have HO7 := Lib.hid ho7
        have HC7 := Lib.hid hc7
        have HF7 := Lib.hid hf7
        clear hb7 ho7 hc7 hf7
        go_wp2
        go_end0
        exact ⟨rfl, tellgo HB.out I1.out I2.out I3.out I4.out I5.out I6.out (csiE ⟨st, params, told, priv, inter, false, text, out⟩ r) HRD.out HPV.out HC5.out HO6.out HC6.out HF6.out HB7.out HO7.out HC7.out HF7.out⟩
    | true =>
      rw [show controlS ⟨st, params, told, priv, inter, true, text, out⟩ r = goesS ⟨st, params, told, priv, inter, true, text, out⟩ 0 by unfold controlS; rw [if_neg hr, if_neg h0, if_neg h4, if_neg h6, if_neg (fun h => by cases h.2)]]
      obtain ⟨nc0, nc2, nc3, nc4, nc5, nf0, nf2, nf3, nf4, nf5⟩ := H.out.nums
      clear h0
      go_enter Try.func25, Try.ntmps25
      go_wp2_with fail
      go_at_call 33
      refine (low_ge _ _ _ (by omega)).mono ?_
      rintro e w1 ⟨rfl, rfl⟩
      go_wp2_with fail
      go_at_call 21
      refine (goes_any H.out 0).mono ?_
      rintro e w2 ⟨rfl, hU⟩
      have HU := Lib.hid hU
      clear hU
      go_wp2
      go_end0
      exact ⟨rfl, HU.out⟩
  · rw [show controlS s r = goesS s 0 by unfold controlS; rw [if_neg hr, if_neg h0, if_neg h4, if_neg h6, if_neg (fun h => h5 h.1)]]
    clear h0
    go_enter Try.func25, Try.ntmps25
    go_wp2_with fail
    go_at_call 33
    refine (low_ge _ _ _ (by omega)).mono ?_
    rintro e w1 ⟨rfl, rfl⟩
    go_wp2_with fail
    go_at_call 21
    refine (goes_any H.out 0).mono ?_
    rintro e w2 ⟨rfl, hU⟩
    have HU := Lib.hid hU
    clear hU
    go_wp2
    go_end0
    exact ⟨rfl, HU.out⟩
end Go.Proofs.Ytaficleoimfejaa
