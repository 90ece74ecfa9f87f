/-
  Chapter 8: the signs behind an intermediate one; a digit of a param; a sign of the params.
-/
import Derived.Test.YtaficleoimfejaaEsc3
namespace Go.Proofs.Ytaficleoimfejaa
open Go.RowKit
set_option linter.unusedVariables false
set_option linter.unusedSimpArgs false
attribute [local go_sem ↓] run_min_two run_max_two


def betweenS (s : PS) (r : Int) : PS :=
  if r < 32 then tellS s (ev0 2 r 0 0) else if r = 127 then s else if r < 48 then { s with sp := true }
  else if r < 127 ∧ s.sp = false then goesS (tellS s (ev0 3 0 s.inter r)) 0 else goesS s 0
set_option maxHeartbeats 4000000 in
theorem between_any {w : World} {p : Nat} {s : PS} {F G : Nat → Prop} (h : PR w p s F G) (hn : s.out.length ≤ 1000000) (r : Int) :
    Calls Try.prog 24 #[.pointer (some ⟨p, 0, none⟩), .int .i32 r] w fun e w' => e = .returned (.tuple #[]) ∧ UP p (betweenS s r) F G w w' := by
  have H := Lib.hid h
  clear h
  by_cases hr : r < 32
  · rw [show betweenS s r = tellS s (ev0 2 r 0 0) by unfold betweenS; rw [if_pos hr]]
    go_enter Try.func24, Try.ntmps24
    go_wp2_with fail
    go_at_call 33
    refine (low_lt H.out hn _ (by omega)).mono ?_
    rintro e w1 ⟨rfl, hU⟩
    have HU := Lib.hid hU
    clear hU
    go_wp2
    go_end0
    exact ⟨rfl, HU.out⟩
  by_cases h0 : r = 127
  · subst h0
    rw [show betweenS s 127 = s from rfl]
    go_enter Try.func24, Try.ntmps24
    go_wp2_with fail
    go_at_call 33
    refine (low_ge _ _ _ (by omega)).mono ?_
    rintro e w1 ⟨rfl, rfl⟩
    go_wp2
    go_end0
    exact ⟨rfl, UP.refl H.out⟩
  have e0 : (r == 127) = false := by simpa using h0
  by_cases h4 : r < 48
  · rw [show betweenS s r = { s with sp := true } by unfold betweenS; rw [if_neg hr, if_neg h0, if_pos h4]]
    obtain ⟨nc0, nc2, nc3, nc4, nc5, nf0, nf2, nf3, nf4, nf5⟩ := H.out.nums
    clear h0
    go_enter Try.func24, Try.ntmps24
    go_wp2_with fail
    go_at_call 33
    refine (low_ge _ _ _ (by omega)).mono ?_
    rintro e w1 ⟨rfl, rfl⟩
    go_wp2
    go_end0
    exact ⟨rfl, PR.num H.out _ rfl rfl rfl (chg1 _ _ _ _) (fun vp vt vo hb => hb.set 5 _)⟩
  by_cases h5 : r < 127
  · obtain ⟨st, params, told, priv, inter, sp, text, out⟩ := s
    cases sp with
    | false =>
      rw [show betweenS ⟨st, params, told, priv, inter, false, text, out⟩ r = goesS (tellS ⟨st, params, told, priv, inter, false, text, out⟩ (ev0 3 0 inter r)) 0 by unfold betweenS; rw [if_neg hr, if_neg h0, if_neg h4, if_pos ⟨h5, rfl⟩]]
      obtain ⟨nc0, nc2, nc3, nc4, nc5, nf0, nf2, nf3, nf4, nf5⟩ := H.out.nums
      clear h0
      go_enter Try.func24, Try.ntmps24
      go_wp2_with fail
      go_at_call 33
      refine (low_ge _ _ _ (by omega)).mono ?_
      rintro e w1 ⟨rfl, rfl⟩
      go_wp2_with fail
      go_at_call 34
      refine (tells_any H.out hn 3 0 0 inter r .empty).mono ?_
      rintro e w2 ⟨rfl, hU⟩
      have HU := Lib.hid hU
      clear hU
      obtain ⟨hc1, F1, G1, hP1, hF1, hG1⟩ := HU.out
      have H0 := H
      have H := Lib.hid hP1
      have HS : Hid (∀ w3 s2, UP p s2 F1 G1 w2 w3 → UP p s2 F G w1 w3) := Lib.hid (fun w3 s2 h => UP.step hc1 hF1 hG1 h)
      clear hc1 hP1 hF1 hG1 HU H0
      go_wp2_with fail
      go_at_call 21
      refine (goes_any H.out 0).mono ?_
      rintro e w2 ⟨rfl, hU⟩
      have HU := Lib.hid hU
      clear hU
      go_wp2
      go_end0
      exact ⟨rfl, HS.out _ _ HU.out⟩
    | true =>
      rw [show betweenS ⟨st, params, told, priv, inter, true, text, out⟩ r = goesS ⟨st, params, told, priv, inter, true, text, out⟩ 0 by unfold betweenS; rw [if_neg hr, if_neg h0, if_neg h4, if_neg (fun h => by cases h.2)]]
      obtain ⟨nc0, nc2, nc3, nc4, nc5, nf0, nf2, nf3, nf4, nf5⟩ := H.out.nums
      clear h0
      go_enter Try.func24, Try.ntmps24
      go_wp2_with fail
      go_at_call 33
      refine (low_ge _ _ _ (by omega)).mono ?_
      rintro e w1 ⟨rfl, rfl⟩
      go_wp2_with fail
      go_at_call 21
      refine (goes_any H.out 0).mono ?_
      rintro e w2 ⟨rfl, hU⟩
      have HU := Lib.hid hU
      clear hU
      go_wp2
      go_end0
      exact ⟨rfl, HU.out⟩
  · rw [show betweenS s r = goesS s 0 by unfold betweenS; rw [if_neg hr, if_neg h0, if_neg h4, if_neg (fun h => h5 h.1)]]
    clear h0
    go_enter Try.func24, Try.ntmps24
    go_wp2_with fail
    go_at_call 33
    refine (low_ge _ _ _ (by omega)).mono ?_
    rintro e w1 ⟨rfl, rfl⟩
    go_wp2_with fail
    go_at_call 21
    refine (goes_any H.out 0).mono ?_
    rintro e w2 ⟨rfl, hU⟩
    have HU := Lib.hid hU
    clear hU
    go_wp2
    go_end0
    exact ⟨rfl, HU.out⟩

/-- The rows of params and text change, the events stay. -/
theorem PR.rows {w w' : World} {p : Nat} {s : PS} {F G : Nat → Prop} {q : List (Ev × Value)} {vp vt vo : Value} (hb : Blk w p 49 (pcs s.st vp s.told s.priv s.inter s.sp vt vo)) (h1 : Own w 3 1 vp s.params.length (intI s.params))
    (h2 : Own w 21 1 vt s.text.length (runesV s.text)) (h3 : Own w 41 7 vo q.length (q.flatMap evc)) (h4 : q.map Prod.fst = s.out)
    (h5 : ∀ x ∈ q, Rd w 1 x.2 x.1.ps.length (intI x.1.ps) ∧ ∀ k, blkOf x.2 k → G k ∧ ¬ F k ∧ k < w.heap.size) (h6 : ∀ k, F k ↔ (k = p ∨ blkOf vp k ∨ blkOf vt k ∨ blkOf vo k))
    (s' : PS) (hout : s'.out = s.out) (vp' vt' : Value) (hb' : Blk w' p 49 (pcs s'.st vp' s'.told s'.priv s'.inter s'.sp vt' vo)) (h1' : Own w' 3 1 vp' s'.params.length (intI s'.params))
    (h2' : Own w' 21 1 vt' s'.text.length (runesV s'.text)) (hc : Chg w w' (fun x => x = p ∨ blkOf vp x ∨ blkOf vt x)) (hf1 : ∀ x, blkOf vp' x → blkOf vp x ∨ w.heap.size ≤ x) (hf2 : ∀ x, blkOf vt' x → blkOf vt x ∨ w.heap.size ≤ x) : UP p s' F G w w' := by
  have hin : ∀ k, (k = p ∨ blkOf vp k ∨ blkOf vt k) → F k := fun k hk => (h6 k).2 (by rcases hk with h | h | h; exact .inl h; exact .inr (.inl h); exact .inr (.inr (.inl h)))
  refine ⟨hc.mono (fun x _ hx => hin x hx), fun x => x = p ∨ blkOf vp' x ∨ blkOf vt' x ∨ blkOf vo x, G, ⟨q, vp', vt', vo, hb', h1', h2', h3.kept hc ?_, by rw [hout]; exact h4, fun x hx => ?_, fun _ => Iff.rfl⟩, fun x hx => ?_, fun x hx => .inl hx⟩
  · rintro k hk (rfl | h | h)
    · exact h3.ne hb (by decide) hk
    · exact h3.apart h1 (by decide) hk h
    · exact h3.apart h2 (by decide) hk h
  · refine ⟨(h5 x hx).1.kept hc (fun y hy hyF => ((h5 x hx).2 y hy).2.1 (hin y hyF)), fun y hy => ⟨((h5 x hx).2 y hy).1, fun hyF => ?_, Nat.lt_of_lt_of_le ((h5 x hx).2 y hy).2.2 hc.size⟩⟩
    have hno := ((h5 x hx).2 y hy).2.1
    have hlt := ((h5 x hx).2 y hy).2.2
    rcases hyF with hyF | hyF | hyF | hyF
    · exact hno ((h6 y).2 (.inl hyF))
    · rcases hf1 y hyF with h | h
      · exact hno ((h6 y).2 (.inr (.inl h)))
      · omega
    · rcases hf2 y hyF with h | h
      · exact hno ((h6 y).2 (.inr (.inr (.inl h))))
      · omega
    · exact hno ((h6 y).2 (.inr (.inr (.inr hyF))))
  · rcases hx with hx | hx | hx | hx
    · exact .inl ((h6 x).2 (.inl hx))
    · exact (hf1 x hx).imp (fun h => (h6 x).2 (.inr (.inl h))) id
    · exact (hf2 x hx).imp (fun h => (h6 x).2 (.inr (.inr (.inl h)))) id
    · exact .inl ((h6 x).2 (.inr (.inr (.inr hx))))

theorem wraps_i64 (x : Int) (h0 : -9223372036854775808 ≤ x) (h1 : x ≤ 9223372036854775807) : IntKind.i64.wrap x = x := by simp [IntKind.wrap, IntKind.bits, IntKind.signed, wrap64]; omega
def digitS (s : PS) (n : Int) : PS := { s with params := s.params.set (s.params.length - 1) (mnI (mxI (s.params.getD (s.params.length - 1) 0) 0 * 10 + n) 9999), told := true }
set_option maxRecDepth 100000 in
set_option maxHeartbeats 4000000 in
theorem digit_any {w : World} {p : Nat} {s : PS} {F G : Nat → Prop} (h : PR w p s F G) (hp : s.params ≠ []) (hl : s.params.length ≤ 1000000) (hr : ∀ x ∈ s.params, -1 ≤ x ∧ x ≤ 9999) (n : Int) (hn : 0 ≤ n ∧ n ≤ 9) :
    Calls Try.prog 39 #[.pointer (some ⟨p, 0, none⟩), .int .i64 n] w fun e w' => e = .returned (.tuple #[]) ∧ UP p (digitS s n) F G w w' := by
  obtain ⟨q, vp, vt, vo, hb, h1, h2, h3, h4, h5, h6⟩ := h
  obtain ⟨j, hj⟩ : ∃ j, s.params.length = j + 1 := by cases hs : s.params with | nil => exact absurd hs hp | cons a l => exact ⟨l.length, by simp⟩
  obtain ⟨ao, cap, rfl, hcap, hmax, hnone, hsome⟩ := h1.form
  cases ao with
  | none => have := (hnone rfl).1; omega
  | some a =>
    obtain ⟨g, rfl⟩ := hsome a rfl
    have hgp : ¬ g = p := fun e => h1.ne hb (by decide) (by rw [← e]; rfl)
    have hcell : w.cell? ⟨g, j, none⟩ = some (.int .i64 (s.params.getD j 0)) := by
      rw [h1.cellAt j (by omega)]
      simp [intI, List.getD, show j < s.params.length by omega]
    have hfz := h1.frozenAt j
    have hv := hr (s.params.getD j 0) (by rw [List.getD_eq_getElem?_getD, List.getElem?_eq_getElem (by omega)]; simp)
    have hS : digitS s n = { s with params := s.params.set j (mnI (mxI (s.params.getD j 0) 0 * 10 + n) 9999), told := true } := by unfold digitS; rw [hj, Nat.add_sub_cancel]
    rw [hS]
    have hmx : mxI (s.params.getD j 0) 0 ≤ 9999 ∧ 0 ≤ mxI (s.params.getD j 0) 0 := by unfold mxI; split <;> omega
    generalize s.params.getD j 0 = v0 at *
    have hw0 : IntKind.i64.wrap ((s.params.length : Int) - 1) = (j : Int) := by rw [hj]; rw [wraps_i64 _ (by omega) (by omega)]; omega
    have hw1 : IntKind.i64.wrap (mxI v0 0 * 10) = mxI v0 0 * 10 := wraps_i64 _ (by omega) (by omega)
    have hw2 : IntKind.i64.wrap (mxI v0 0 * 10 + n) = mxI v0 0 * 10 + n := wraps_i64 _ (by omega) (by omega)
    have hj0 : (0 : Int) ≤ (j : Int) := by omega
    have hj1 : (j : Int) < (s.params.length : Int) := by omega
    have hp1 : w.cell? ⟨p, 1, none⟩ = some (.slice (some ⟨g, 0, none⟩) s.params.length cap) := by rw [hb.cell]; rfl
    have hp2 : w.cell? ⟨p, 2, none⟩ = some (.bool s.told) := by rw [hb.cell]; rfl
    have hf2 := hb.free 2
    have HB := Lib.hid hb
    have H1 := Lib.hid h1
    have H2 := Lib.hid h2
    have H3 := Lib.hid h3
    have H5 := Lib.hid h5
    have H6 := Lib.hid h6
    have H4 := Lib.hid h4
    have HR := Lib.hid hr
    have HJ := Lib.hid hj
    have HGP := Lib.hid hgp
    clear hb h1 h2 h3 h4 h5 h6 hr hj hS hnone hsome hp hgp
    go_enter Try.func39, Try.ntmps39
    go_upto_region 1 with (fail)
    refine wp_one [3, 8, 11] [18] [] [0, 1, 2, 3, 4, 5, 6, 7, 8, 9, 10, 11, 12, 13, 14, 15, 16, 17, 18] rfl (by kernel_rfl) (fun _ _ _ _ _ h => h) ?_; simp only [List.map_cons, List.map_nil, List.getElem?_toArray, List.getElem?_cons_zero, List.getElem?_cons_succ]
    (repeat (first | (apply can0; (· rfl); (· rfl); (· (intro w'; first | (go_simp; with_reducible rfl) | (go_simp; done))); simp only [Act.put, List.setIfInBounds_toArray, List.set_cons_zero, List.set_cons_succ]) | (apply can1; (· rfl); (· rfl); (· (first | (go_simp; with_reducible rfl) | (go_simp; done))); simp only [Act.put, List.setIfInBounds_toArray, List.set_cons_zero, List.set_cons_succ]) | (apply canN; (· rfl); (· rfl); simp only [Act.put, List.setIfInBounds_toArray, List.set_cons_zero, List.set_cons_succ]) | (apply canN1; (· rfl); (· rfl); simp only [Act.put, List.setIfInBounds_toArray, List.set_cons_zero, List.set_cons_succ]) | (apply can0; (· rfl); (· (go_simp; done)); (· (intro w'; first | (go_simp; with_reducible rfl) | (go_simp; done))); simp only [Act.put, List.setIfInBounds_toArray, List.set_cons_zero, List.set_cons_succ]) | (apply can1; (· rfl); (· (go_simp; done)); (· (first | (go_simp; with_reducible rfl) | (go_simp; done))); simp only [Act.put, List.setIfInBounds_toArray, List.set_cons_zero, List.set_cons_succ]) | (apply canN; (· rfl); (· (go_simp; done)); simp only [Act.put, List.setIfInBounds_toArray, List.set_cons_zero, List.set_cons_succ]) | (apply canN1; (· rfl); (· (go_simp; done)); simp only [Act.put, List.setIfInBounds_toArray, List.set_cons_zero, List.set_cons_succ])))
    refine canW rfl [] rfl (fun K hK => ?_)
    go_simp
    (refine hK _ _ (fun u hu => by cases hu) ?_; clear hK K; try simp only [Act.put, List.setIfInBounds_toArray, List.set_cons_zero, List.set_cons_succ])
    refine canE ?_
    obtain ⟨wb, hwb⟩ : ∃ wb, (w.setCell ⟨g, j, none⟩ (.int .i64 (mnI (mxI v0 0 * 10 + n) 9999))).drew = wb := ⟨_, rfl⟩
    rw [hwb]
    have hbb : Blk wb p 49 (pcs s.st (.slice (some ⟨g, 0, none⟩) s.params.length cap) s.told s.priv s.inter s.sp vt vo) := by
      rw [← hwb]; exact Blk.other (w := w) HB.out (p := ⟨g, j, none⟩) (fun e => HGP.out e.symm) _
    have h1b : Own wb 3 1 (.slice (some ⟨g, 0, none⟩) s.params.length cap) s.params.length (intI (s.params.set j (mnI (mxI v0 0 * 10 + n) 9999))) := by
      rw [← hwb]
      have h := Own.kept ((H1.out.stored j (.int .i64 (mnI (mxI v0 0 * 10 + n) 9999))).1) ((Chg.refl _ nob).drew) (fun _ _ => id)
      simpa [intI, List.map_set] using h
    have hcb : Chg w wb (fun x => x = p ∨ blkOf (.slice (some ⟨g, 0, none⟩) s.params.length cap) x ∨ blkOf vt x) := by
      rw [← hwb]; exact (Chg.setCell (p := ⟨g, j, none⟩) (Chg.refl w _) (.inl (.inr (.inl rfl))) _).drew
    have hx2 : wb.cell? ⟨p, 2, none⟩ = some (.bool s.told) := by rw [hbb.cell]; rfl
    have hxf : wb.frozen? ⟨p, 2, none⟩ = false := hbb.free 2
    have h2b : Own wb 21 1 vt s.text.length (runesV s.text) := by
      rw [← hwb]; exact Own.kept (Own.setOther (p := ⟨g, j, none⟩) H2.out (fun h => H2.out.apart H1.out (by decide) h rfl) _) ((Chg.refl _ nob).drew) (fun _ _ => id)
    have HBB := Lib.hid hbb
    have H1B := Lib.hid h1b
    have H2B := Lib.hid h2b
    have HCB := Lib.hid hcb
    clear hbb h1b hcb h2b hwb hp2 hf2 hp1 hcell hfz
    go_wp2
    go_end0
    refine ⟨rfl, PR.rows HB.out H1.out H2.out H3.out H4.out H5.out H6.out _ rfl (.slice (some ⟨g, 0, none⟩) s.params.length cap) vt (HBB.out.set 2 _) ?_ ?_ (HCB.out.setCell (p := ⟨p, 2, none⟩) (.inl (.inl rfl)) _) (fun x hx => .inl hx) (fun x hx => .inl hx)⟩
    · have h := Own.setOther (p := ⟨p, 2, none⟩) H1B.out (fun e => HGP.out (Option.some.inj e)) (.bool true)
      show Own _ _ _ _ (s.params.set j _).length _
      rw [List.length_set]
      exact h
    · exact Own.setOther (p := ⟨p, 2, none⟩) H2B.out (fun e => H2.out.ne HB.out (by decide) e) _
end Go.Proofs.Ytaficleoimfejaa
