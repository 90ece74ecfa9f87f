/-
  Package key: a number, a run read, or given up.
-/
import Derived.Test.YtmbdpcamhkdkmaaGreatDoorTextM
import Derived.Handy
namespace Go.Proofs.YtmbdpcamhkdkmaaGreatDoor
open Go.RowKit
set_option linter.unusedVariables false
set_option linter.unusedSimpArgs false

abbrev kstop : Ending := .panicked [{ v := .iface 121 (.agg #[]), recovered := false }]
set_option maxRecDepth 100000 in
theorem knum_any (w : World) (g : Nat) (u : Value) (B : List Int) (p : Nat) (e : Int) (h : RdrR w g u B p e) (most : Nat) (hm : most ≤ 9223372036854775807) :
    Calls Tryz.prog 103 #[ptr g, .int .u64 most] w fun e' w' => Chg w w' (fun k => k = g) ∧ ∃ q er, RdrR w' g u B q er ∧ ((er = 0 ∧ e = 0 ∧ ∃ n : Nat, e' = .returned (.int .i64 n) ∧ n ≤ most ∧ numM most (B.drop p) = some (n, B.drop q)) ∨ (er ≠ 0 ∧ e' = kstop ∧ (e ≠ 0 ∨ numM most (B.drop p) = none))) := by
  have HR := Lib.hid h
  clear h
  go_enter Tryz.func103, Tryz.ntmps103
  go_wp2_with fail
  go_at_call 53
  refine (rdnum_any w g u B p e HR.out most).mono ?_
  rintro e' w1 ⟨n, q, er, rfl, hr, hc, hs⟩
  have HC := Lib.hid hc
  have HR1 := Lib.hid hr
  clear hc hr HR
  go_wp2_with fail
  go_at_call 25
  refine (err_any w1 g u B q er HR1.out).mono ?_
  rintro e' x ⟨rfl, rfl⟩
  rcases hs with ⟨rfl, h2, h3⟩ | ⟨h1, h2, h3⟩
  · have hle : n ≤ most := by
      obtain ⟨_, h, _⟩ := numM_back (fun x hx => HR1.out.byte x (List.mem_of_mem_drop hx)) h3
      exact h
    have hwn : IntKind.i64.wrap (n : Int) = (n : Int) := by simp only [IntKind.wrap, IntKind.bits, IntKind.signed]; simp; omega
    have H3 := Lib.hid h3
    have H2 := Lib.hid h2
    clear h2 h3
    go_wp2
    go_ret
    exact ⟨HC.out, _, _, HR1.out, .inl ⟨rfl, H2.out, n, rfl, hle, H3.out⟩⟩
  · have h1' : (er != 0) = true := by simpa using h1
    have H3 := Lib.hid h3
    clear h2 h3
    go_wp2
    exact ⟨rfl, HC.out, _, _, HR1.out, .inr ⟨h1, rfl, H3.out⟩⟩
abbrev NM : Nat := 9223372036854775807
def run6 (n r f g b w : Nat) (l : List Int) : Option (Nat × Ce × List Int) := if n = 0 ∨ Ce.may ⟨r, f, g, b, w⟩ = false then none else some (n, ⟨r, f, g, b, w⟩, l)
def run5 (n r f g b : Nat) (l : List Int) : Option (Nat × Ce × List Int) := (numM NM l).bind fun w => run6 n r f g b w.1 w.2
def run4 (n r f g : Nat) (l : List Int) : Option (Nat × Ce × List Int) := (numM NM l).bind fun b => run5 n r f g b.1 b.2
def run3 (n r f : Nat) (l : List Int) : Option (Nat × Ce × List Int) := (numM NM l).bind fun g => run4 n r f g.1 g.2
def run2 (n r : Nat) (l : List Int) : Option (Nat × Ce × List Int) := (numM NM l).bind fun f => run3 n r f.1 f.2
def run1 (n : Nat) (l : List Int) : Option (Nat × Ce × List Int) := (numM 1114111 l).bind fun r => run2 n r.1 r.2
theorem runP_eq (most : Nat) (l : List Int) : runP most l = (numM most l).bind fun n => run1 n.1 n.2 := rfl
theorem bind_some' {α β : Type} {o : Option α} {x : α} {f : α → Option β} {r : Option β} (h : r = o.bind f) (ho : o = some x) : r = f x := by rw [h, ho]; rfl
theorem bind_none' {α β : Type} {o : Option α} {f : α → Option β} {r : Option β} (h : r = o.bind f) (ho : o = none) : r = none := by rw [h, ho]; rfl
theorem Blk.rd {w w' : World} {k g : Nat} {t : TypeId} {cs : Array Value} {u : Value} {B : List Int} {p : Nat} {e : Int} (h : Blk w k t cs) (hr : RdrR w g u B p e) (ht : t ≠ 78) (hc : Chg w w' (fun k => k = g)) : Blk w' k t cs :=
  h.kept hc (fun e => by subst e; exact ht (h.inj hr.blk).1)
theorem Tab.rd {w w' : World} {g : Nat} {u : Value} {B : List Int} {p : Nat} {e : Int} (h : Tab w) (hr : RdrR w g u B p e) (hc : Chg w w' (fun k => k = g)) : Tab w' := by
  obtain ⟨a, c, hu, _⟩ := hr.own.form
  have h0 := hr.blk.cell 0
  simp only [List.getElem?_toArray, List.getElem?_cons_zero] at h0
  refine ⟨h.1.kept hc fun k hk hkg => ?_, h.2.kept hc fun k hk hkg => ?_⟩
  · obtain ⟨b, o, h1, h2⟩ := h.1.cell (j := 0) (u := .int .i32 0) rfl
    cases h1; cases hk; subst hkg
    rw [h0, hu] at h2
    cases h2
  · obtain ⟨b, o, h1, h2⟩ := h.2.cell (j := 0) (u := .int .i32 4352) rfl
    cases h1; cases hk; subst hkg
    rw [h0, hu] at h2
    cases h2
set_option maxRecDepth 100000 in
set_option maxHeartbeats 4000000 in
theorem krun_any (w : World) (g : Nat) (u : Value) (B : List Int) (p : Nat) (e : Int) (h : RdrR w g u B p e) (most : Nat) (hm : most ≤ 1000000) (ht : Tab w) :
    Calls Tryz.prog 95 #[ptr g, .int .i64 most] w fun e' w' => Chg w w' (fun k => k = g) ∧ ∃ q er, RdrR w' g u B q er ∧ ((er = 0 ∧ e = 0 ∧ ∃ (n : Nat) (c : Ce), e' = .returned (.tuple #[.int .i64 n, c.val]) ∧ runP most (B.drop p) = some (n, c, B.drop q)) ∨ (e' = kstop ∧ (e ≠ 0 ∨ runP most (B.drop p) = none))) := by
  have HR := Lib.hid h
  have HR0 := Lib.hid h
  have HT := Lib.hid ht
  have hwm : IntKind.u64.wrap (most : Int) = (most : Int) := wraps_u64 _ (by omega) (by omega)
  obtain ⟨RP, hRP⟩ : ∃ R, runP most (B.drop p) = R := ⟨_, rfl⟩
  have HQ : Hid (RP = (numM most (B.drop p)).bind fun n => run1 n.1 n.2) := Lib.hid (by rw [← hRP]; rfl)
  rw [hRP]
  clear h ht hRP
  go_enter Tryz.func95, Tryz.ntmps95
  go_upto_region 1 with (fail)
  obtain ⟨w1, hw⟩ : ∃ W, w.alloc (.cells #[.int .i32 0, .int .i64 0, .int .i64 0, .int .i64 0, .int .i64 0] 47) = W := ⟨_, rfl⟩
  have hck : Chg w w1 nob := by rw [← hw]; exact (Chg.refl w nob).alloc _
  have hbk : Blk w1 w.heap.size 47 #[.int .i32 0, .int .i64 0, .int .i64 0, .int .i64 0, .int .i64 0] := by rw [← hw]; exact Blk.new w _ _
  rw [hw]
  clear hw
  obtain ⟨ix, hix⟩ : ∃ i, w.heap.size = i := ⟨_, rfl⟩
  rw [hix] at hbk ⊢
  have HX := Lib.hid hbk
  have Hix := Lib.hid hix
  clear hix hbk
  replace HR := Lib.hid (HR.out.kept hck)
  have HC : Hid (Chg w w1 (fun k => k = g)) := Lib.hid (hck.mono (fun _ _ h => h.elim))
  clear hck
  go_wp2_with fail
  go_at_call 103
  refine (knum_any w1 g u B p e HR.out most (by omega)).mono ?_
  rintro e' w2 ⟨hc, q1, er, hr, ⟨h1, h2, n, rfl, hle, h3⟩ | ⟨h1, rfl, h3⟩⟩
  rotate_left
  · have HQ2 : Hid (e ≠ 0 ∨ RP = none) := Lib.hid (h3.imp (fun h => h) (fun h => bind_none' HQ.out h))
    have HRR := Lib.hid (And.intro hc hr)
    clear hc hr h1 h3
    go_wp2
    exact ⟨rfl, HC.out.trans HRR.out.1 (fun _ _ h => h), _, _, HRR.out.2, .inr ⟨rfl, HQ2.out⟩⟩
  subst h1
  replace HQ := Lib.hid (bind_some' HQ.out h3)
  replace HC := Lib.hid (HC.out.trans hc (fun _ _ h => h))
  replace HX := Lib.hid (HX.out.rd HR.out (by decide) hc)
  replace HR := Lib.hid hr
  have HE := Lib.hid h2
  clear hc hr h2 h3
  go_wp2_with fail
  go_at_call 103
  refine (knum_any w2 g u B q1 0 HR.out 1114111 (by decide)).mono ?_
  rintro e' w3 ⟨hc, q2, er, hr, ⟨h1, h2, r, rfl, hle, h3⟩ | ⟨h1, rfl, h3⟩⟩
  rotate_left
  · have HQ2 := Lib.hid (bind_none' HQ.out (h3.resolve_left (fun h => h rfl)))
    have HRR := Lib.hid (And.intro hc hr)
    clear hc hr h1 h3
    go_wp2
    exact ⟨rfl, HC.out.trans HRR.out.1 (fun _ _ h => h), _, _, HRR.out.2, .inr ⟨rfl, .inr HQ2.out⟩⟩
  subst h1
  replace HQ := Lib.hid (bind_some' HQ.out h3)
  replace HC := Lib.hid (HC.out.trans hc (fun _ _ h => h))
  replace HX := Lib.hid (HX.out.rd HR.out (by decide) hc)
  skip
  replace HR := Lib.hid hr
  have hler : r ≤ 1114111 := hle
  clear hc hr h2 h3 hle
  have hwr : IntKind.i32.wrap (r : Int) = (r : Int) := by simp only [IntKind.wrap, IntKind.bits, IntKind.signed]; simp; omega
  go_upto_region 3 with (fail)
  obtain ⟨w4, hw⟩ : ∃ W, w3.alloc (.cells #[.int .i32 r, .int .i64 0, .int .i64 0, .int .i64 0, .int .i64 0] 47) = W := ⟨_, rfl⟩
  have hck : Chg w3 w4 nob := by rw [← hw]; exact (Chg.refl w3 nob).alloc _
  have hbk : Blk w4 w3.heap.size 47 #[.int .i32 r, .int .i64 0, .int .i64 0, .int .i64 0, .int .i64 0] := by rw [← hw]; exact Blk.new w3 _ _
  rw [hw]
  clear hw
  obtain ⟨ic, hix⟩ : ∃ i, w3.heap.size = i := ⟨_, rfl⟩
  rw [hix] at hbk ⊢
  have HY := Lib.hid hbk
  have Hic := Lib.hid hix
  clear hix hbk
  replace HR := Lib.hid (HR.out.kept hck)
  replace HC := Lib.hid (HC.out.trans hck (fun _ _ h => h.elim))
  have HWS : Hid (w.heap.size ≤ w3.heap.size) := Lib.hid (by have h1 := HX.out.lt; have h2 := Hix.out; omega)
  have HXY : Hid (ix ≠ ic) := Lib.hid (by have h1 := HX.out.lt; have h2 := Hic.out; omega)
  replace HX := Lib.hid (HX.out.kept hck (fun h => h))
  clear hck hwm hwr
  go_wp2_with fail
  go_at_call 103
  refine (knum_any w4 g u B q2 0 HR.out NM (by decide)).mono ?_
  rintro e' w5 ⟨hc, q3, er, hr, ⟨h1, h2, f, rfl, hle, h3⟩ | ⟨h1, rfl, h3⟩⟩
  rotate_left
  · have HQ2 := Lib.hid (bind_none' HQ.out (h3.resolve_left (fun h => h rfl)))
    have HRR := Lib.hid (And.intro hc hr)
    clear hc hr h1 h3
    go_wp2
    exact ⟨rfl, HC.out.trans HRR.out.1 (fun _ _ h => h), _, _, HRR.out.2, .inr ⟨rfl, .inr HQ2.out⟩⟩
  subst h1
  replace HQ := Lib.hid (bind_some' HQ.out h3)
  replace HC := Lib.hid (HC.out.trans hc (fun _ _ h => h))
  replace HX := Lib.hid (HX.out.rd HR.out (by decide) hc)
  replace HY := Lib.hid (HY.out.rd HR.out (by decide) hc)
  replace HR := Lib.hid hr
  have hlef : f ≤ NM := hle
  clear hc hr h2 h3 hle
  go_wp2_with fail
  go_at_call 103
  refine (knum_any w5 g u B q3 0 HR.out NM (by decide)).mono ?_
  rintro e' w6 ⟨hc, q4, er, hr, ⟨h1, h2, gg, rfl, hle, h3⟩ | ⟨h1, rfl, h3⟩⟩
  rotate_left
  · have HQ2 := Lib.hid (bind_none' HQ.out (h3.resolve_left (fun h => h rfl)))
    have HRR := Lib.hid (And.intro hc hr)
    clear hc hr h1 h3
    go_wp2
    exact ⟨rfl, HC.out.trans HRR.out.1 (fun _ _ h => h), _, _, HRR.out.2, .inr ⟨rfl, .inr HQ2.out⟩⟩
  subst h1
  replace HQ := Lib.hid (bind_some' HQ.out h3)
  replace HC := Lib.hid (HC.out.trans hc (fun _ _ h => h))
  replace HX := Lib.hid (HX.out.rd HR.out (by decide) hc)
  replace HY := Lib.hid (HY.out.rd HR.out (by decide) hc)
  replace HR := Lib.hid hr
  have hlegg : gg ≤ NM := hle
  clear hc hr h2 h3 hle
  go_wp2_with fail
  go_at_call 103
  refine (knum_any w6 g u B q4 0 HR.out NM (by decide)).mono ?_
  rintro e' w7 ⟨hc, q5, er, hr, ⟨h1, h2, b, rfl, hle, h3⟩ | ⟨h1, rfl, h3⟩⟩
  rotate_left
  · have HQ2 := Lib.hid (bind_none' HQ.out (h3.resolve_left (fun h => h rfl)))
    have HRR := Lib.hid (And.intro hc hr)
    clear hc hr h1 h3
    go_wp2
    exact ⟨rfl, HC.out.trans HRR.out.1 (fun _ _ h => h), _, _, HRR.out.2, .inr ⟨rfl, .inr HQ2.out⟩⟩
  subst h1
  replace HQ := Lib.hid (bind_some' HQ.out h3)
  replace HC := Lib.hid (HC.out.trans hc (fun _ _ h => h))
  replace HX := Lib.hid (HX.out.rd HR.out (by decide) hc)
  replace HY := Lib.hid (HY.out.rd HR.out (by decide) hc)
  replace HR := Lib.hid hr
  have hleb : b ≤ NM := hle
  clear hc hr h2 h3 hle
  go_wp2_with fail
  go_at_call 103
  refine (knum_any w7 g u B q5 0 HR.out NM (by decide)).mono ?_
  rintro e' w8 ⟨hc, q6, er, hr, ⟨h1, h2, ww, rfl, hle, h3⟩ | ⟨h1, rfl, h3⟩⟩
  rotate_left
  · have HQ2 := Lib.hid (bind_none' HQ.out (h3.resolve_left (fun h => h rfl)))
    have HRR := Lib.hid (And.intro hc hr)
    clear hc hr h1 h3
    go_wp2
    exact ⟨rfl, HC.out.trans HRR.out.1 (fun _ _ h => h), _, _, HRR.out.2, .inr ⟨rfl, .inr HQ2.out⟩⟩
  subst h1
  replace HQ := Lib.hid (bind_some' HQ.out h3)
  replace HC := Lib.hid (HC.out.trans hc (fun _ _ h => h))
  replace HX := Lib.hid (HX.out.rd HR.out (by decide) hc)
  replace HY := Lib.hid (HY.out.rd HR.out (by decide) hc)
  replace HR := Lib.hid hr
  have hleww : ww ≤ NM := hle
  clear hc hr h2 h3 hle
  have y0 := HY.out.cell 0
  have y1 := HY.out.cell 1
  have y2 := HY.out.cell 2
  have y3 := HY.out.cell 3
  have y4 := HY.out.cell 4
  simp only [List.getElem?_toArray, List.getElem?_cons_zero, List.getElem?_cons_succ] at y0 y1 y2 y3 y4
  have z1 := HY.out.free 1
  have z2 := HY.out.free 2
  have z3 := HY.out.free 3
  have z4 := HY.out.free 4
  go_upto_region 4 with (fail)
  obtain ⟨w9, hw⟩ : ∃ W, (((w8.setCell ⟨ic, 1, none⟩ (.int .i64 f)).setCell ⟨ic, 2, none⟩ (.int .i64 gg)).setCell ⟨ic, 3, none⟩ (.int .i64 b)).setCell ⟨ic, 4, none⟩ (.int .i64 ww) = W := ⟨_, rfl⟩
  have hnew : w.heap.size ≤ ic := by have h1 := Hic.out; have h2 := HC.out.size; have h3 := HX.out.lt; have h4 := Hix.out; have h5 := HWS.out; omega
  have HY9 : Hid (Blk w9 ic 47 #[.int .i32 r, .int .i64 f, .int .i64 gg, .int .i64 b, .int .i64 ww]) := Lib.hid (by rw [← hw]; exact (((HY.out.set 1 _).set 2 _).set 3 _).set 4 _)
  have HX9 : Hid (Blk w9 ix 47 #[.int .i32 0, .int .i64 0, .int .i64 0, .int .i64 0, .int .i64 0]) := Lib.hid (by
    rw [← hw]
    exact (((HX.out.other (p := ⟨ic, 1, none⟩) HXY.out _).other (p := ⟨ic, 2, none⟩) HXY.out _).other (p := ⟨ic, 3, none⟩) HXY.out _).other (p := ⟨ic, 4, none⟩) HXY.out _)
  have HR9 : Hid (RdrR w9 g u B q6 0) := Lib.hid (by
    rw [← hw]
    exact (((HR.out.setOther HY.out (by decide) (by decide) 1 _).setOther (HY.out.set 1 _) (by decide) (by decide) 2 _).setOther ((HY.out.set 1 _).set 2 _) (by decide) (by decide) 3 _).setOther (((HY.out.set 1 _).set 2 _).set 3 _) (by decide) (by decide) 4 _)
  have HC9 : Hid (Chg w w9 (fun k => k = g)) := Lib.hid (by
    rw [← hw]
    exact (((HC.out.setCell (p := ⟨ic, 1, none⟩) (.inr hnew) _).setCell (p := ⟨ic, 2, none⟩) (.inr hnew) _).setCell (p := ⟨ic, 3, none⟩) (.inr hnew) _).setCell (p := ⟨ic, 4, none⟩) (.inr hnew) _)
  rw [hw]
  clear hw y0 y1 y2 y3 y4 z1 z2 z3 z4 HX HY HR HC hnew
  have y0 := HY9.out.cell 0
  have y1 := HY9.out.cell 1
  have y2 := HY9.out.cell 2
  have y3 := HY9.out.cell 3
  have y4 := HY9.out.cell 4
  simp only [List.getElem?_toArray, List.getElem?_cons_zero, List.getElem?_cons_succ] at y0 y1 y2 y3 y4
  by_cases hn : n = 0
  · have hn' : ((n : Int) == 0) = true := by simpa using hn
    have HN : Hid (RP = none) := Lib.hid (by rw [HQ.out]; exact if_pos (.inl hn))
    clear hn
    go_wp2
    exact ⟨rfl, HC9.out, _, _, HR9.out, .inr ⟨rfl, .inr HN.out⟩⟩
  · have hn' : ((n : Int) == 0) = false := by simpa using hn
    obtain ⟨m, hm⟩ : ∃ m, Ce.may ⟨(r : Int), (f : Int), (gg : Int), (b : Int), (ww : Int)⟩ = m := ⟨_, rfl⟩
    have HN : Hid (RP = if m = false then none else some (n, ⟨(r : Int), (f : Int), (gg : Int), (b : Int), (ww : Int)⟩, B.drop q6)) := Lib.hid (by
      rw [HQ.out, run6, hm]
      by_cases h : m = false
      · rw [if_pos h, if_pos (.inr h)]
      · rw [if_neg h, if_neg (fun h1 => h1.elim hn h)])
    have HM := Lib.hid (maycell_any w9 ⟨(r : Int), (f : Int), (gg : Int), (b : Int), (ww : Int)⟩ (HT.out.rd HR0.out HC9.out))
    rw [hm] at HM
    clear hn hm
    go_wp2_with fail
    go_at_call 63
    refine HM.out.mono ?_
    rintro e' w10 ⟨rfl, hck⟩
    have HR10 := Lib.hid (HR9.out.kept hck)
    have HC10 : Hid (Chg w w10 (fun k => k = g)) := Lib.hid (HC9.out.trans hck (fun _ _ h => h.elim))
    have HY10 := Lib.hid (HY9.out.kept hck (fun h => h))
    have HX10 := Lib.hid (HX9.out.kept hck (fun h => h))
    clear hck HM HY9 HX9 HR9 HC9 y0 y1 y2 y3 y4
    cases m with
    | false =>
      go_wp2
      exact ⟨rfl, HC10.out, _, _, HR10.out, .inr ⟨rfl, .inr (HN.out.trans (if_pos trivial))⟩⟩
    | true =>
      go_wp2_with fail
      refine wp_one [1] [3] [] [0, 1, 2, 3] rfl (by kernel_rfl) (fun _ _ _ _ _ h => h) ?_; simp only [List.map_cons, List.map_nil, List.getElem?_toArray, List.getElem?_cons_zero, List.getElem?_cons_succ]
      obtain ⟨wd, hwd⟩ : ∃ W, World.drew w10 = W := ⟨_, rfl⟩
      have hcd : Chg w10 wd nob := by rw [← hwd]; exact (Chg.refl w10 nob).drew
      rw [hwd]
      replace HR10 := Lib.hid (HR10.out.kept hcd)
      replace HC10 := Lib.hid (HC10.out.trans hcd (fun _ _ h => h.elim))
      replace HY10 := Lib.hid (HY10.out.kept hcd (fun h => h))
      replace HX10 := Lib.hid (HX10.out.kept hcd (fun h => h))
      clear hwd hcd
      have y0 := HY10.out.cell 0
      have y1 := HY10.out.cell 1
      have y2 := HY10.out.cell 2
      have y3 := HY10.out.cell 3
      have y4 := HY10.out.cell 4
      have x0 := HX10.out.cell 0
      have x1 := HX10.out.cell 1
      have x2 := HX10.out.cell 2
      have x3 := HX10.out.cell 3
      have x4 := HX10.out.cell 4
      simp only [List.getElem?_toArray, List.getElem?_cons_zero, List.getElem?_cons_succ] at y0 y1 y2 y3 y4 x0 x1 x2 x3 x4
      have z0 := HX10.out.free 0
      have z1 := HX10.out.free 1
      have z2 := HX10.out.free 2
      have z3 := HX10.out.free 3
      have z4 := HX10.out.free 4
      (repeat (first | (apply can0; (· rfl); (· rfl); (· (intro w'; first | (go_simp; with_reducible rfl) | (go_simp; done))); simp only [Act.put, List.setIfInBounds_toArray, List.set_cons_zero, List.set_cons_succ]) | (apply can1; (· rfl); (· rfl); (· (first | (go_simp; with_reducible rfl) | (go_simp; done))); simp only [Act.put, List.setIfInBounds_toArray, List.set_cons_zero, List.set_cons_succ]) | (apply canN; (· rfl); (· rfl); simp only [Act.put, List.setIfInBounds_toArray, List.set_cons_zero, List.set_cons_succ]) | (apply canN1; (· rfl); (· rfl); simp only [Act.put, List.setIfInBounds_toArray, List.set_cons_zero, List.set_cons_succ]) | (apply can0; (· rfl); (· (go_simp; done)); (· (intro w'; first | (go_simp; with_reducible rfl) | (go_simp; done))); simp only [Act.put, List.setIfInBounds_toArray, List.set_cons_zero, List.set_cons_succ]) | (apply can1; (· rfl); (· (go_simp; done)); (· (first | (go_simp; with_reducible rfl) | (go_simp; done))); simp only [Act.put, List.setIfInBounds_toArray, List.set_cons_zero, List.set_cons_succ]) | (apply canN; (· rfl); (· (go_simp; done)); simp only [Act.put, List.setIfInBounds_toArray, List.set_cons_zero, List.set_cons_succ]) | (apply canN1; (· rfl); (· (go_simp; done)); simp only [Act.put, List.setIfInBounds_toArray, List.set_cons_zero, List.set_cons_succ])))
      refine canW rfl [] rfl (fun K hK => ?_)
      go_simp
      (refine hK _ _ (fun u hu => by cases hu) ?_; clear hK K; try simp only [Act.put, List.setIfInBounds_toArray, List.set_cons_zero, List.set_cons_succ])
      (repeat (first | (apply can0; (· rfl); (· rfl); (· (intro w'; first | (go_simp; with_reducible rfl) | (go_simp; done))); simp only [Act.put, List.setIfInBounds_toArray, List.set_cons_zero, List.set_cons_succ]) | (apply can1; (· rfl); (· rfl); (· (first | (go_simp; with_reducible rfl) | (go_simp; done))); simp only [Act.put, List.setIfInBounds_toArray, List.set_cons_zero, List.set_cons_succ]) | (apply canN; (· rfl); (· rfl); simp only [Act.put, List.setIfInBounds_toArray, List.set_cons_zero, List.set_cons_succ]) | (apply canN1; (· rfl); (· rfl); simp only [Act.put, List.setIfInBounds_toArray, List.set_cons_zero, List.set_cons_succ]) | (apply can0; (· rfl); (· (go_simp; done)); (· (intro w'; first | (go_simp; with_reducible rfl) | (go_simp; done))); simp only [Act.put, List.setIfInBounds_toArray, List.set_cons_zero, List.set_cons_succ]) | (apply can1; (· rfl); (· (go_simp; done)); (· (first | (go_simp; with_reducible rfl) | (go_simp; done))); simp only [Act.put, List.setIfInBounds_toArray, List.set_cons_zero, List.set_cons_succ]) | (apply canN; (· rfl); (· (go_simp; done)); simp only [Act.put, List.setIfInBounds_toArray, List.set_cons_zero, List.set_cons_succ]) | (apply canN1; (· rfl); (· (go_simp; done)); simp only [Act.put, List.setIfInBounds_toArray, List.set_cons_zero, List.set_cons_succ])))
      refine canE ?_
      obtain ⟨wz, hwz⟩ : ∃ W, ((((wd.setCell ⟨ix, 0, none⟩ (.int .i32 r)).setCell ⟨ix, 1, none⟩ (.int .i64 f)).setCell ⟨ix, 2, none⟩ (.int .i64 gg)).setCell ⟨ix, 3, none⟩ (.int .i64 b)).setCell ⟨ix, 4, none⟩ (.int .i64 ww) = W := ⟨_, rfl⟩
      have hnew : w.heap.size ≤ ix := by have h4 := Hix.out; omega
      have HXZ : Hid (Blk wz ix 47 #[.int .i32 r, .int .i64 f, .int .i64 gg, .int .i64 b, .int .i64 ww]) := Lib.hid (by rw [← hwz]; exact ((((HX10.out.set 0 _).set 1 _).set 2 _).set 3 _).set 4 _)
      have HRZ : Hid (RdrR wz g u B q6 0) := Lib.hid (by
        rw [← hwz]
        exact ((((HR10.out.setOther HX10.out (by decide) (by decide) 0 _).setOther (HX10.out.set 0 _) (by decide) (by decide) 1 _).setOther ((HX10.out.set 0 _).set 1 _) (by decide) (by decide) 2 _).setOther (((HX10.out.set 0 _).set 1 _).set 2 _) (by decide) (by decide) 3 _).setOther ((((HX10.out.set 0 _).set 1 _).set 2 _).set 3 _) (by decide) (by decide) 4 _)
      have HCZ : Hid (Chg w wz (fun k => k = g)) := Lib.hid (by
        rw [← hwz]
        exact ((((HC10.out.setCell (p := ⟨ix, 0, none⟩) (.inr hnew) _).setCell (p := ⟨ix, 1, none⟩) (.inr hnew) _).setCell (p := ⟨ix, 2, none⟩) (.inr hnew) _).setCell (p := ⟨ix, 3, none⟩) (.inr hnew) _).setCell (p := ⟨ix, 4, none⟩) (.inr hnew) _)
      rw [hwz]
      clear hwz x0 x1 x2 x3 x4 y0 y1 y2 y3 y4 z0 z1 z2 z3 z4 HX10 HR10 HC10 HY10 hnew
      have x0 := HXZ.out.cell 0
      have x1 := HXZ.out.cell 1
      have x2 := HXZ.out.cell 2
      have x3 := HXZ.out.cell 3
      have x4 := HXZ.out.cell 4
      simp only [List.getElem?_toArray, List.getElem?_cons_zero, List.getElem?_cons_succ] at x0 x1 x2 x3 x4
      go_wp2
      refine bodyPost_ret (v := .tuple #[.int .i64 n, Ce.val ⟨(r : Int), (f : Int), (gg : Int), (b : Int), (ww : Int)⟩]) (by simp [results, Tryz.results95, go_sem, x0, x1, x2, x3, x4, Ce.val]) rfl ?_
      exact ⟨HCZ.out, _, _, HRZ.out, .inl ⟨rfl, HE.out, n, _, rfl, HN.out.trans (if_neg (by simp))⟩⟩
end Go.Proofs.YtmbdpcamhkdkmaaGreatDoor
