/-
  The document's DecodeKey (tikref13).
-/
import Derived.Test.YtmbdpcamhkdkmaaGreatDoorDrcM
import Derived.Test.YtmbdpcamhkdkmaaGreatDoorKDecM
import Derived.Test.YtmbdpcamhkdkmaaGreatDoorRS3M
import Derived.Test.YtmbdpcamhkdkmaaGreatDoorMg28
namespace Go.Proofs.YtmbdpcamhkdkmaaGreatDoor
open Go.RowKit
set_option linter.unusedVariables false
set_option linter.unusedSimpArgs false

def sq7 (r c y x h : Nat) (t : ByteArray) (l : List Int) : Option (Sc × List Int) := (cellsF (r * c) l).bind fun z => some (⟨r, c, z.1, y, x, decide (h = 1), t⟩, z.2)
def sq6 (r c y x h : Nat) (l : List Int) : Option (Sc × List Int) := (textQ 1000 l).bind fun t => sq7 r c y x h t.1 t.2
def sq5 (r c y x : Nat) (l : List Int) : Option (Sc × List Int) := (numM 1 l).bind fun h => sq6 r c y x h.1 h.2
def sq4 (r c y : Nat) (l : List Int) : Option (Sc × List Int) := (numM 200 l).bind fun x => sq5 r c y x.1 x.2
def sq3 (r c : Nat) (l : List Int) : Option (Sc × List Int) := (numM 60 l).bind fun y => sq4 r c y.1 y.2
def sq2 (r : Nat) (l : List Int) : Option (Sc × List Int) := (numM 200 l).bind fun c => sq3 r c.1 c.2
theorem drop_nil {B : List Int} {q : Nat} (h : q ≤ B.length) : B.drop q = [] ↔ q = B.length := by
  rw [List.drop_eq_nil_iff]; omega
/-- What the document's reading of the cells comes to. -/
theorem dcells_come {RQ : Option (Sc × List Int)} {DQ : Option Sc} {w w' : World} {g : Nat} {u : Value} {B : List Int} {p : Nat} {e : Int} {r c y x h : Nat} {t : ByteArray} {e' : Ending}
    (hD : DQ = RQ.bind fun z => if z.2 = [] ∧ z.1.may = true then some z.1 else none) (ha : AtG RQ e (sq7 r c y x h t (B.drop p)))
    (hcl : Chg w w' (fun k => k = g) ∧ ∃ q er, RdD w' g u B q er ∧ ((er = e ∧ (e = 0 ∨ r * c = 0) ∧ ∃ v cs, e' = .returned (.tuple #[v, .bool true]) ∧ Cs w w' v cs ∧ cellsF (r * c) (B.drop p) = some (cs, B.drop q)) ∨ (e' = .returned (.tuple #[.slice none 0 0, .bool false]) ∧ (e ≠ 0 ∨ cellsF (r * c) (B.drop p) = none)))) (hrc : r * c ≤ 12000) :
    ∃ v cs b q er, e' = .returned (.tuple #[v, .bool b]) ∧ Cs w w' v cs ∧ cs.length ≤ 12000 ∧ RdD w' g u B q er ∧ Chg w w' (fun k => k = g) ∧ DQ = if (b && (endE B q er == 0) && Sc.may ⟨r, c, cs, y, x, decide (h = 1), t⟩) = true then some ⟨r, c, cs, y, x, decide (h = 1), t⟩ else none := by
  obtain ⟨hc, q, er, hr, hcase⟩ := hcl
  rcases hcase with ⟨rfl, h2, v, cs, rfl, h3, h4⟩ | ⟨rfl, h1⟩
  · have hb : ∀ z ∈ B.drop p, 0 ≤ z ∧ z ≤ 255 := fun z hz => hr.by_.byte z (List.mem_of_mem_drop hz)
    obtain ⟨_, hlen, _⟩ := cellsF_back hb (by omega) h4
    refine ⟨v, cs, true, q, er, rfl, h3, by omega, hr, hc, ?_⟩
    rcases ha with ⟨h5, h6⟩ | ⟨h5, h6⟩
    · subst h5
      rw [hD, h6, sq7, h4]
      simp only [Option.bind_some, Bool.true_and, Bool.and_eq_true, beq_iff_eq]
      have he : endE B q 0 = 0 ↔ B.drop q = [] := by
        rw [drop_nil hr.le]
        unfold endE
        have := hr.le
        split <;> omega
      simp only [he]
    · have he : endE B q er = er := if_neg (fun h => h5 h.1)
      rw [hD, h6, Option.bind_none, he, beq_false_of_ne h5]
      simp
  · refine ⟨_, [], false, q, er, rfl, Cs.nil _ _, Nat.zero_le _, hr, hc, ?_⟩
    have : RQ = none := by
      rcases ha with ⟨h5, h6⟩ | ⟨h5, h6⟩
      · rcases h1 with h | h
        · exact absurd h5 h
        · rw [h6, sq7, h]; rfl
      · exact h6
    rw [hD, this]
    simp
abbrev zscA : Array Value := scA 0 0 (.slice none 0 0) 0 0 false ⟨#[]⟩
set_option maxRecDepth 100000 in
set_option maxHeartbeats 4000000 in
theorem ddec_any (w : World) (va : Value) (B : List Int) (hb : By w va B) (hl : B.length ≤ 1000000) (ht : Tab w) :
    Calls Tryz.prog 29 #[va] w fun e' w' => Chg w w' nob ∧ ((∃ s v, decQ 1000 B = some s ∧ e' = .returned (.tuple #[scV s.r s.c v s.y s.x s.h s.t, .int .i64 0]) ∧ Cs w w' v s.l) ∨ (decQ 1000 B = none ∧ e' = .returned (.tuple #[scV 0 0 (.slice none 0 0) 0 0 false ⟨#[]⟩, .int .i64 2]))) := by
  obtain ⟨ab, cb, rfl, _⟩ := hb.form
  have HB0 := Lib.hid hb
  have HT := Lib.hid ht
  obtain ⟨RQ, hRQ⟩ : ∃ R, readQ 1000 B = R := ⟨_, rfl⟩
  have HQ : Hid (AtG RQ 0 ((numM 60 (B.drop 0)).bind fun r => sq2 r.1 r.2)) := Lib.hid (.inl ⟨rfl, by rw [← hRQ, List.drop_zero]; rfl⟩)
  obtain ⟨DQ, hDQ⟩ : ∃ D, decQ 1000 B = D := ⟨_, rfl⟩
  have HD : Hid (DQ = RQ.bind fun z => if z.2 = [] ∧ z.1.may = true then some z.1 else none) := Lib.hid (by rw [← hDQ, ← hRQ]; rfl)
  rw [hDQ]
  clear hb ht hRQ hDQ
  go_enter Tryz.func29, Tryz.ntmps29
  go_upto_region 3 with (fail)
  obtain ⟨w1, hw⟩ : ∃ W, ((w.alloc (.cells zscA 24)).alloc (.cells #[.slice ab B.length cb, .int .i64 0, .int .i64 0] 58)).alloc (.cells zscA 24) = W := ⟨_, rfl⟩
  have HC : Hid (Chg w w1 nob) := Lib.hid (by rw [← hw]; exact (((Chg.refl w nob).alloc _).alloc _).alloc _)
  have HX : Hid (Blk w1 w.heap.size 24 zscA) := Lib.hid (by rw [← hw]; exact ((Blk.new w _ _).alloc _).alloc _)
  have hs1 : ((w.alloc (.cells zscA 24)).alloc (.cells #[.slice ab B.length cb, .int .i64 0, .int .i64 0] 58)).heap.size = w.heap.size + 1 + 1 := by rw [size_al, size_al]
  have HR : Hid (RdD w1 (w.heap.size + 1) (.slice ab B.length cb) B 0 0) := Lib.hid ⟨by rw [← hw]; exact (Blk.new2' w _ _ _).alloc _, by rw [← hw]; exact ((HB0.out.alloc _).alloc _).alloc _, Nat.zero_le _, by omega⟩
  have HY : Hid (Blk w1 (w.heap.size + 1 + 1) 24 zscA) := Lib.hid (by rw [← hw, ← hs1]; exact Blk.new _ _ _)
  have hw' := hw
  simp only [zscA] at hw'
  rw [hw']
  clear hw' hw hs1
  obtain ⟨ix, hix⟩ : ∃ i, w.heap.size = i := ⟨_, rfl⟩
  have HIX : Hid (w.heap.size ≤ ix) := Lib.hid (by omega)
  rw [hix] at HX HR HY ⊢
  obtain ⟨g, hg⟩ : ∃ i, ix + 1 = i := ⟨_, rfl⟩
  rw [hg] at HR HY ⊢
  obtain ⟨iy, hiy⟩ : ∃ i, g + 1 = i := ⟨_, rfl⟩
  rw [hiy] at HY ⊢
  have HG : Hid (w.heap.size ≤ g) := Lib.hid (by omega)
  have HIY : Hid (w.heap.size ≤ iy) := Lib.hid (by omega)
  have HXY : Hid (ix ≠ iy) := Lib.hid (by omega)
  have HYG : Hid (iy ≠ g) := Lib.hid (by omega)
  clear hix hg hiy
  go_wp2_with fail
  go_at_call 30
  refine (dnum_any w1 g _ B 0 0 HR.out 60).mono ?_
  rintro e' w2 ⟨r, p1, e1, rfl, hr⟩
  have hler := hr.le
  obtain ⟨hrd, hc, hs, _⟩ := hr
  replace HQ : Hid (AtG RQ e1 _) := Lib.hid (HQ.out.num hs)
  replace HC := Lib.hid (HC.out.trans hc (fun i hi h => by have := HG.out; omega))
  replace HX := Lib.hid (HX.out.rdD HR.out (by decide) hc)
  replace HY := Lib.hid (HY.out.rdD HR.out (by decide) hc)
  replace HR := Lib.hid hrd
  clear hrd hc hs
  go_wp2_with fail
  go_at_call 30
  refine (dnum_any w2 g _ B p1 e1 HR.out 200).mono ?_
  rintro e' w3 ⟨c, p2, e2, rfl, hr⟩
  have hlec := hr.le
  obtain ⟨hrd, hc, hs, _⟩ := hr
  replace HQ : Hid (AtG RQ e2 _) := Lib.hid (HQ.out.num hs)
  replace HC := Lib.hid (HC.out.trans hc (fun i hi h => by have := HG.out; omega))
  replace HX := Lib.hid (HX.out.rdD HR.out (by decide) hc)
  replace HY := Lib.hid (HY.out.rdD HR.out (by decide) hc)
  replace HR := Lib.hid hrd
  clear hrd hc hs
  have hwr : IntKind.i64.wrap (r : Int) = (r : Int) := by simp only [IntKind.wrap, IntKind.bits, IntKind.signed]; simp; omega
  have hwc : IntKind.i64.wrap (c : Int) = (c : Int) := by simp only [IntKind.wrap, IntKind.bits, IntKind.signed]; simp; omega
  have y0 := HY.out.cell 0
  have y1 := HY.out.cell 1
  have y2 := HY.out.cell 2
  have y3 := HY.out.cell 3
  have y4 := HY.out.cell 4
  have y5 := HY.out.cell 5
  have y6 := HY.out.cell 6
  simp only [List.getElem?_toArray, List.getElem?_cons_zero, List.getElem?_cons_succ] at y0 y1 y2 y3 y4 y5 y6
  have f0 := HY.out.free 0
  have f1 := HY.out.free 1
  have f2 := HY.out.free 2
  have f3 := HY.out.free 3
  have f4 := HY.out.free 4
  have f5 := HY.out.free 5
  have f6 := HY.out.free 6
  go_upto_region 4 with (fail)
  obtain ⟨w4, hw⟩ : ∃ W, (w3.setCell ⟨iy, 0, none⟩ (.int .i64 r)).setCell ⟨iy, 1, none⟩ (.int .i64 c) = W := ⟨_, rfl⟩
  replace HY : Hid (Blk w4 iy 24 (scA r c (.slice none 0 0) 0 0 false ⟨#[]⟩)) := Lib.hid (by rw [← hw]; exact (HY.out.set 0 _).set 1 _)
  have hck : Chg w3 w4 (fun k => k = iy) := by rw [← hw]; exact ((Chg.refl w3 (fun k => k = iy)).setCell (p := ⟨iy, 0, none⟩) (.inl rfl) _).setCell (p := ⟨iy, 1, none⟩) (.inl rfl) _
  rw [hw]
  replace HX := Lib.hid (HX.out.kept hck HXY.out)
  replace HR := Lib.hid (HR.out.other HB0.out HYG.out HIY.out hck)
  replace HC := Lib.hid (HC.out.trans hck (fun i hi h => by have := HIY.out; omega))
  clear hw hck y0 y1 y2 y3 y4 y5 y6 f0 f1 f2 f3 f4 f5 f6
  go_wp2_with fail
  go_at_call 30
  refine (dnum_any w4 g _ B p2 e2 HR.out 60).mono ?_
  rintro e' w5 ⟨y, p3, e3, rfl, hr⟩
  have hley := hr.le
  obtain ⟨hrd, hc, hs, _⟩ := hr
  replace HQ : Hid (AtG RQ e3 _) := Lib.hid (HQ.out.num hs)
  replace HC := Lib.hid (HC.out.trans hc (fun i hi h => by have := HG.out; omega))
  replace HX := Lib.hid (HX.out.rdD HR.out (by decide) hc)
  replace HY := Lib.hid (HY.out.rdD HR.out (by decide) hc)
  replace HR := Lib.hid hrd
  clear hrd hc hs
  go_wp2_with fail
  go_at_call 30
  refine (dnum_any w5 g _ B p3 e3 HR.out 200).mono ?_
  rintro e' w6 ⟨x, p4, e4, rfl, hr⟩
  have hlex := hr.le
  obtain ⟨hrd, hc, hs, _⟩ := hr
  replace HQ : Hid (AtG RQ e4 _) := Lib.hid (HQ.out.num hs)
  replace HC := Lib.hid (HC.out.trans hc (fun i hi h => by have := HG.out; omega))
  replace HX := Lib.hid (HX.out.rdD HR.out (by decide) hc)
  replace HY := Lib.hid (HY.out.rdD HR.out (by decide) hc)
  replace HR := Lib.hid hrd
  clear hrd hc hs
  go_wp2_with fail
  go_at_call 30
  refine (dnum_any w6 g _ B p4 e4 HR.out 1).mono ?_
  rintro e' w7 ⟨h, p5, e5, rfl, hr⟩
  have hleh := hr.le
  obtain ⟨hrd, hc, hs, _⟩ := hr
  replace HQ : Hid (AtG RQ e5 _) := Lib.hid (HQ.out.num hs)
  replace HC := Lib.hid (HC.out.trans hc (fun i hi h => by have := HG.out; omega))
  replace HX := Lib.hid (HX.out.rdD HR.out (by decide) hc)
  replace HY := Lib.hid (HY.out.rdD HR.out (by decide) hc)
  replace HR := Lib.hid hrd
  clear hrd hc hs
  have hwy : IntKind.i64.wrap (y : Int) = (y : Int) := by simp only [IntKind.wrap, IntKind.bits, IntKind.signed]; simp; omega
  have hwx : IntKind.i64.wrap (x : Int) = (x : Int) := by simp only [IntKind.wrap, IntKind.bits, IntKind.signed]; simp; omega
  obtain ⟨bh, hbh⟩ : ∃ b, decide (h = 1) = b := ⟨_, rfl⟩
  have hbh2 : ((h : Int) == 1) = bh := by rw [← hbh, Bool.eq_iff_iff]; simp; omega
  have y0 := HY.out.cell 0
  have y1 := HY.out.cell 1
  have y2 := HY.out.cell 2
  have y3 := HY.out.cell 3
  have y4 := HY.out.cell 4
  have y5 := HY.out.cell 5
  have y6 := HY.out.cell 6
  simp only [List.getElem?_toArray, List.getElem?_cons_zero, List.getElem?_cons_succ] at y0 y1 y2 y3 y4 y5 y6
  have f0 := HY.out.free 0
  have f1 := HY.out.free 1
  have f2 := HY.out.free 2
  have f3 := HY.out.free 3
  have f4 := HY.out.free 4
  have f5 := HY.out.free 5
  have f6 := HY.out.free 6
  go_upto_region 5 with (fail)
  obtain ⟨w8, hw⟩ : ∃ W, ((w7.setCell ⟨iy, 3, none⟩ (.int .i64 y)).setCell ⟨iy, 4, none⟩ (.int .i64 x)).setCell ⟨iy, 5, none⟩ (.bool bh) = W := ⟨_, rfl⟩
  replace HY : Hid (Blk w8 iy 24 (scA r c (.slice none 0 0) y x bh ⟨#[]⟩)) := Lib.hid (by rw [← hw]; exact ((HY.out.set 3 _).set 4 _).set 5 _)
  have hck : Chg w7 w8 (fun k => k = iy) := by rw [← hw]; exact (((Chg.refl w7 (fun k => k = iy)).setCell (p := ⟨iy, 3, none⟩) (.inl rfl) _).setCell (p := ⟨iy, 4, none⟩) (.inl rfl) _).setCell (p := ⟨iy, 5, none⟩) (.inl rfl) _
  rw [hw]
  replace HX := Lib.hid (HX.out.kept hck HXY.out)
  replace HR := Lib.hid (HR.out.other HB0.out HYG.out HIY.out hck)
  replace HC := Lib.hid (HC.out.trans hck (fun i hi h => by have := HIY.out; omega))
  clear hw hck y0 y1 y2 y3 y4 y5 y6 f0 f1 f2 f3 f4 f5 f6
  go_wp2_with fail
  go_at_call 31
  refine (dtext_any w8 g _ B p5 e5 HR.out 1000 (by decide)).mono ?_
  rintro e' w9 ⟨t, p6, e6, rfl, hrd, hc, hs⟩
  have htl : t.size ≤ 1000 := by
    rcases hs with ⟨_, _, h3⟩ | ⟨_, h2, _⟩
    · obtain ⟨_, h, _⟩ := textQ_back (fun x hx => hrd.by_.byte x (List.mem_of_mem_drop hx)) h3
      exact h
    · subst h2; exact Nat.zero_le _
  replace HQ : Hid (AtG RQ e6 _) := Lib.hid (HQ.out.text hs)
  replace HC := Lib.hid (HC.out.trans hc (fun i hi h => by have := HG.out; omega))
  replace HX := Lib.hid (HX.out.rdD HR.out (by decide) hc)
  replace HY := Lib.hid (HY.out.rdD HR.out (by decide) hc)
  replace HR := Lib.hid hrd
  clear hrd hc hs
  have y0 := HY.out.cell 0
  have y1 := HY.out.cell 1
  have y2 := HY.out.cell 2
  have y3 := HY.out.cell 3
  have y4 := HY.out.cell 4
  have y5 := HY.out.cell 5
  have y6 := HY.out.cell 6
  simp only [List.getElem?_toArray, List.getElem?_cons_zero, List.getElem?_cons_succ] at y0 y1 y2 y3 y4 y5 y6
  have f0 := HY.out.free 0
  have f1 := HY.out.free 1
  have f2 := HY.out.free 2
  have f3 := HY.out.free 3
  have f4 := HY.out.free 4
  have f5 := HY.out.free 5
  have f6 := HY.out.free 6
  go_upto_region 6 with (fail)
  obtain ⟨w10, hw⟩ : ∃ W, w9.setCell ⟨iy, 6, none⟩ (.string t) = W := ⟨_, rfl⟩
  replace HY : Hid (Blk w10 iy 24 (scA r c (.slice none 0 0) y x bh t)) := Lib.hid (by rw [← hw]; exact HY.out.set 6 _)
  have hck : Chg w9 w10 (fun k => k = iy) := by rw [← hw]; exact (Chg.refl w9 (fun k => k = iy)).setCell (p := ⟨iy, 6, none⟩) (.inl rfl) _
  rw [hw]
  replace HX := Lib.hid (HX.out.kept hck HXY.out)
  replace HR := Lib.hid (HR.out.other HB0.out HYG.out HIY.out hck)
  replace HC := Lib.hid (HC.out.trans hck (fun i hi h => by have := HIY.out; omega))
  clear hw hck y0 y1 y2 y3 y4 y5 y6 f0 f1 f2 f3 f4 f5 f6
  have hrc : r * c ≤ 12000 := by
    have : r * c ≤ 60 * 200 := Nat.mul_le_mul hler hlec
    omega
  have hmul : IntKind.i64.wrap ((r : Int) * (c : Int)) = ((r * c : Nat) : Int) := by
    rw [← Int.natCast_mul]
    simp only [IntKind.wrap, IntKind.bits, IntKind.signed]
    simp only [Int.natCast_mul] at *
    have h2 : ((r : Int) * (c : Int)) ≤ 12000 := by rw [← Int.natCast_mul]; omega
    have h3 : (0 : Int) ≤ ((r : Int) * (c : Int)) := by rw [← Int.natCast_mul]; omega
    simp
    omega
  have y0 := HY.out.cell 0
  have y1 := HY.out.cell 1
  have y2 := HY.out.cell 2
  have y3 := HY.out.cell 3
  have y4 := HY.out.cell 4
  have y5 := HY.out.cell 5
  have y6 := HY.out.cell 6
  simp only [List.getElem?_toArray, List.getElem?_cons_zero, List.getElem?_cons_succ] at y0 y1 y2 y3 y4 y5 y6
  have f0 := HY.out.free 0
  have f1 := HY.out.free 1
  have f2 := HY.out.free 2
  have f3 := HY.out.free 3
  have f4 := HY.out.free 4
  have f5 := HY.out.free 5
  have f6 := HY.out.free 6
  go_wp2_with fail
  go_at_call 33
  refine (dcellsread_any w10 g _ B p6 e6 HR.out (r * c) hrc (HT.out.kept HC.out)).mono ?_
  intro e' w11 hcl
  obtain ⟨v, cs, b, q, er, rfl, hcs, hcl12, hr, hch, hcome⟩ := dcells_come HD.out HQ.out hcl hrc
  have HCS := Lib.hid hcs
  have HW9 : Hid (w.heap.size ≤ w10.heap.size) := Lib.hid HC.out.size
  have HL12 := Lib.hid hcl12
  rw [hbh] at hcome
  have HCM := Lib.hid hcome
  replace HX := Lib.hid (HX.out.rdD HR.out (by decide) hch)
  replace HY := Lib.hid (HY.out.rdD HR.out (by decide) hch)
  replace HC : Hid (Chg w w11 nob) := Lib.hid (HC.out.trans hch (fun i hi e => by have := HG.out; omega))
  replace HR := Lib.hid hr
  obtain ⟨av, cv, rfl, _⟩ := hcs.form
  clear hcl hcs hcl12 hr hch hcome hmul y0 y1 y2 y3 y4 y5 y6 f0 f1 f2 f3 f4 f5 f6 HQ HD hrc
  have y0 := HY.out.cell 0
  have y1 := HY.out.cell 1
  have y2 := HY.out.cell 2
  have y3 := HY.out.cell 3
  have y4 := HY.out.cell 4
  have y5 := HY.out.cell 5
  have y6 := HY.out.cell 6
  simp only [List.getElem?_toArray, List.getElem?_cons_zero, List.getElem?_cons_succ] at y0 y1 y2 y3 y4 y5 y6
  have f0 := HY.out.free 0
  have f1 := HY.out.free 1
  have f2 := HY.out.free 2
  have f3 := HY.out.free 3
  have f4 := HY.out.free 4
  have f5 := HY.out.free 5
  have f6 := HY.out.free 6
  go_upto_region 8 with (fail)
  obtain ⟨w12, hw⟩ : ∃ W, w11.setCell ⟨iy, 2, none⟩ (.slice av cs.length cv) = W := ⟨_, rfl⟩
  have HO : Hid (Own w12 47 5 (.slice av cs.length cv) cs.length (cellsV cs)) := Lib.hid (by rw [← hw]; exact HCS.out.1.setOther (p := ⟨iy, 2, none⟩) (HCS.out.1.ne HY.out (by decide)) _)
  replace HY : Hid (Blk w12 iy 24 (scA r c (.slice av cs.length cv) y x bh t)) := Lib.hid (by rw [← hw]; exact HY.out.set 2 _)
  have hck : Chg w11 w12 (fun k => k = iy) := by rw [← hw]; exact (Chg.refl w11 (fun k => k = iy)).setCell (p := ⟨iy, 2, none⟩) (.inl rfl) _
  rw [hw]
  replace HX := Lib.hid (HX.out.kept hck HXY.out)
  replace HR := Lib.hid (HR.out.other HB0.out HYG.out HIY.out hck)
  replace HC := Lib.hid (HC.out.trans hck (fun i hi h => by have := HIY.out; omega))
  clear hw hck y0 y1 y2 y3 y4 y5 y6 f0 f1 f2 f3 f4 f5 f6
  have HDQ : Hid (DQ = if (b && (endE B q er == 0) && Sc.may ⟨r, c, cs, y, x, bh, t⟩) = true then some ⟨r, c, cs, y, x, bh, t⟩ else none) := HCM
  obtain ⟨m, hm⟩ : ∃ m, Sc.may ⟨(r : Int), (c : Int), cs, (y : Int), (x : Int), bh, t⟩ = m := ⟨_, rfl⟩
  obtain ⟨E, hE⟩ : ∃ E, endE B q er = E := ⟨_, rfl⟩
  rw [hm, hE] at HDQ
  cases b with
  | false =>
    have HN : Hid (DQ = none) := Lib.hid (by rw [HDQ.out]; simp)
    have x0 := HX.out.cell 0
    have x1 := HX.out.cell 1
    have x2 := HX.out.cell 2
    have x3 := HX.out.cell 3
    have x4 := HX.out.cell 4
    have x5 := HX.out.cell 5
    have x6 := HX.out.cell 6
    simp only [List.getElem?_toArray, List.getElem?_cons_zero, List.getElem?_cons_succ] at x0 x1 x2 x3 x4 x5 x6
    have f0 := HX.out.free 0
    have f1 := HX.out.free 1
    have f2 := HX.out.free 2
    have f3 := HX.out.free 3
    have f4 := HX.out.free 4
    have f5 := HX.out.free 5
    have f6 := HX.out.free 6
    go_wp2
    obtain ⟨wz, hwz⟩ : ∃ W, ((((((World.setCell w12 ⟨ix, 0, none⟩ (.int .i64 0)).setCell ⟨ix, 1, none⟩ (.int .i64 0)).setCell ⟨ix, 2, none⟩ (.slice none 0 0)).setCell ⟨ix, 3, none⟩ (.int .i64 0)).setCell ⟨ix, 4, none⟩ (.int .i64 0)).setCell ⟨ix, 5, none⟩ (.bool false)).setCell ⟨ix, 6, none⟩ (.string ⟨#[]⟩) = W := ⟨_, rfl⟩
    have HXZ : Hid (Blk wz ix 24 #[.int .i64 0, .int .i64 0, .slice none 0 0, .int .i64 0, .int .i64 0, .bool false, .string ⟨#[]⟩]) := Lib.hid (by rw [← hwz]; exact ((((((HX.out.set 0 _).set 1 _).set 2 _).set 3 _).set 4 _).set 5 _).set 6 _)
    have hnew : w.heap.size ≤ ix := by have := HIX.out; omega
    have HCZ : Hid (Chg w wz nob) := Lib.hid (by
      rw [← hwz]
      exact ((((((HC.out.setCell (p := ⟨ix, 0, none⟩) (.inr hnew) _).setCell (p := ⟨ix, 1, none⟩) (.inr hnew) _).setCell (p := ⟨ix, 2, none⟩) (.inr hnew) _).setCell (p := ⟨ix, 3, none⟩) (.inr hnew) _).setCell (p := ⟨ix, 4, none⟩) (.inr hnew) _).setCell (p := ⟨ix, 5, none⟩) (.inr hnew) _).setCell (p := ⟨ix, 6, none⟩) (.inr hnew) _)
    have hcq : Chg w12 wz (fun k => k = ix) := by
      rw [← hwz]
      exact (((((((Chg.refl w12 (fun k => k = ix)).setCell (p := ⟨ix, 0, none⟩) (.inl rfl) _).setCell (p := ⟨ix, 1, none⟩) (.inl rfl) _).setCell (p := ⟨ix, 2, none⟩) (.inl rfl) _).setCell (p := ⟨ix, 3, none⟩) (.inl rfl) _).setCell (p := ⟨ix, 4, none⟩) (.inl rfl) _).setCell (p := ⟨ix, 5, none⟩) (.inl rfl) _).setCell (p := ⟨ix, 6, none⟩) (.inl rfl) _
    rw [hwz]
    clear hwz
    have z0 := HXZ.out.cell 0
    have z1 := HXZ.out.cell 1
    have z2 := HXZ.out.cell 2
    have z3 := HXZ.out.cell 3
    have z4 := HXZ.out.cell 4
    have z5 := HXZ.out.cell 5
    have z6 := HXZ.out.cell 6
    simp only [List.getElem?_toArray, List.getElem?_cons_zero, List.getElem?_cons_succ] at z0 z1 z2 z3 z4 z5 z6
    refine bodyPost_ret (v := .tuple #[scV 0 0 (.slice none 0 0) 0 0 false ⟨#[]⟩, .int .i64 2]) (by simp [results, Tryz.results29, go_sem, z0, z1, z2, z3, z4, z5, z6]) rfl ?_
    exact ⟨HCZ.out, .inr ⟨HN.out, rfl⟩⟩
  | true =>
    have HEND := Lib.hid (dend_any w12 g _ B q er HR.out)
    rw [hE] at HEND
    go_wp2_with fail
    go_at_call 58
    refine HEND.out.mono ?_
    rintro e' w13 ⟨rfl, hck⟩
    replace HX := Lib.hid (HX.out.kept hck id)
    replace HY := Lib.hid (HY.out.kept hck id)
    replace HO := Lib.hid (HO.out.kept hck (fun _ _ => id))
    replace HC := Lib.hid (HC.out.trans hck (fun _ _ h => h))
    clear hck HEND
    by_cases he0 : E = 0
    · have he0' : (E != 0) = false := by simpa using he0
      have he0'' : (E == 0) = true := by simpa using he0
      rw [he0''] at HDQ
      clear he0 he0'' hE
      have HMS := Lib.hid (rmayscr_any w13 r c y x bh t (.slice av cs.length cv) cs HO.out.rd (by have := HL12.out; omega) (by omega))
      rw [show mayS (r : Int) (c : Int) cs (y : Int) (x : Int) t = m from hm] at HMS
      have y0 := HY.out.cell 0
      have y1 := HY.out.cell 1
      have y2 := HY.out.cell 2
      have y3 := HY.out.cell 3
      have y4 := HY.out.cell 4
      have y5 := HY.out.cell 5
      have y6 := HY.out.cell 6
      simp only [List.getElem?_toArray, List.getElem?_cons_zero, List.getElem?_cons_succ] at y0 y1 y2 y3 y4 y5 y6
      have f0 := HY.out.free 0
      have f1 := HY.out.free 1
      have f2 := HY.out.free 2
      have f3 := HY.out.free 3
      have f4 := HY.out.free 4
      have f5 := HY.out.free 5
      have f6 := HY.out.free 6
      clear f0 f1 f2 f3 f4 f5 f6
      go_wp2_with fail
      go_at_call 18
      refine HMS.out.mono ?_
      rintro e' w14 ⟨rfl, hck⟩
      replace HX := Lib.hid (HX.out.kept hck id)
      replace HY := Lib.hid (HY.out.kept hck id)
      replace HO := Lib.hid (HO.out.kept hck (fun _ _ => id))
      replace HC := Lib.hid (HC.out.trans hck (fun _ _ h => h))
      clear hck HMS y0 y1 y2 y3 y4 y5 y6
      cases m with
      | false =>
        have HN : Hid (DQ = none) := Lib.hid (by rw [HDQ.out]; simp)
        have x0 := HX.out.cell 0
        have x1 := HX.out.cell 1
        have x2 := HX.out.cell 2
        have x3 := HX.out.cell 3
        have x4 := HX.out.cell 4
        have x5 := HX.out.cell 5
        have x6 := HX.out.cell 6
        simp only [List.getElem?_toArray, List.getElem?_cons_zero, List.getElem?_cons_succ] at x0 x1 x2 x3 x4 x5 x6
        have f0 := HX.out.free 0
        have f1 := HX.out.free 1
        have f2 := HX.out.free 2
        have f3 := HX.out.free 3
        have f4 := HX.out.free 4
        have f5 := HX.out.free 5
        have f6 := HX.out.free 6
        go_wp2
        obtain ⟨wz, hwz⟩ : ∃ W, ((((((World.setCell w14 ⟨ix, 0, none⟩ (.int .i64 0)).setCell ⟨ix, 1, none⟩ (.int .i64 0)).setCell ⟨ix, 2, none⟩ (.slice none 0 0)).setCell ⟨ix, 3, none⟩ (.int .i64 0)).setCell ⟨ix, 4, none⟩ (.int .i64 0)).setCell ⟨ix, 5, none⟩ (.bool false)).setCell ⟨ix, 6, none⟩ (.string ⟨#[]⟩) = W := ⟨_, rfl⟩
        have HXZ : Hid (Blk wz ix 24 #[.int .i64 0, .int .i64 0, .slice none 0 0, .int .i64 0, .int .i64 0, .bool false, .string ⟨#[]⟩]) := Lib.hid (by rw [← hwz]; exact ((((((HX.out.set 0 _).set 1 _).set 2 _).set 3 _).set 4 _).set 5 _).set 6 _)
        have hnew : w.heap.size ≤ ix := by have := HIX.out; omega
        have HCZ : Hid (Chg w wz nob) := Lib.hid (by
          rw [← hwz]
          exact ((((((HC.out.setCell (p := ⟨ix, 0, none⟩) (.inr hnew) _).setCell (p := ⟨ix, 1, none⟩) (.inr hnew) _).setCell (p := ⟨ix, 2, none⟩) (.inr hnew) _).setCell (p := ⟨ix, 3, none⟩) (.inr hnew) _).setCell (p := ⟨ix, 4, none⟩) (.inr hnew) _).setCell (p := ⟨ix, 5, none⟩) (.inr hnew) _).setCell (p := ⟨ix, 6, none⟩) (.inr hnew) _)
        have hcq : Chg w14 wz (fun k => k = ix) := by
          rw [← hwz]
          exact (((((((Chg.refl w14 (fun k => k = ix)).setCell (p := ⟨ix, 0, none⟩) (.inl rfl) _).setCell (p := ⟨ix, 1, none⟩) (.inl rfl) _).setCell (p := ⟨ix, 2, none⟩) (.inl rfl) _).setCell (p := ⟨ix, 3, none⟩) (.inl rfl) _).setCell (p := ⟨ix, 4, none⟩) (.inl rfl) _).setCell (p := ⟨ix, 5, none⟩) (.inl rfl) _).setCell (p := ⟨ix, 6, none⟩) (.inl rfl) _
        rw [hwz]
        clear hwz
        have z0 := HXZ.out.cell 0
        have z1 := HXZ.out.cell 1
        have z2 := HXZ.out.cell 2
        have z3 := HXZ.out.cell 3
        have z4 := HXZ.out.cell 4
        have z5 := HXZ.out.cell 5
        have z6 := HXZ.out.cell 6
        simp only [List.getElem?_toArray, List.getElem?_cons_zero, List.getElem?_cons_succ] at z0 z1 z2 z3 z4 z5 z6
        refine bodyPost_ret (v := .tuple #[scV 0 0 (.slice none 0 0) 0 0 false ⟨#[]⟩, .int .i64 2]) (by simp [results, Tryz.results29, go_sem, z0, z1, z2, z3, z4, z5, z6]) rfl ?_
        exact ⟨HCZ.out, .inr ⟨HN.out, rfl⟩⟩
      | true =>
        have HN : Hid (DQ = some ⟨r, c, cs, y, x, bh, t⟩) := Lib.hid (by rw [HDQ.out]; simp)
        have x0 := HX.out.cell 0
        have x1 := HX.out.cell 1
        have x2 := HX.out.cell 2
        have x3 := HX.out.cell 3
        have x4 := HX.out.cell 4
        have x5 := HX.out.cell 5
        have x6 := HX.out.cell 6
        simp only [List.getElem?_toArray, List.getElem?_cons_zero, List.getElem?_cons_succ] at x0 x1 x2 x3 x4 x5 x6
        have f0 := HX.out.free 0
        have f1 := HX.out.free 1
        have f2 := HX.out.free 2
        have f3 := HX.out.free 3
        have f4 := HX.out.free 4
        have f5 := HX.out.free 5
        have f6 := HX.out.free 6
        have y0 := HY.out.cell 0
        have y1 := HY.out.cell 1
        have y2 := HY.out.cell 2
        have y3 := HY.out.cell 3
        have y4 := HY.out.cell 4
        have y5 := HY.out.cell 5
        have y6 := HY.out.cell 6
        simp only [List.getElem?_toArray, List.getElem?_cons_zero, List.getElem?_cons_succ] at y0 y1 y2 y3 y4 y5 y6
        have g0 := HY.out.free 0
        have g1 := HY.out.free 1
        have g2 := HY.out.free 2
        have g3 := HY.out.free 3
        have g4 := HY.out.free 4
        have g5 := HY.out.free 5
        have g6 := HY.out.free 6
        go_wp2
        obtain ⟨wz, hwz⟩ : ∃ W, ((((((World.setCell w14 ⟨ix, 0, none⟩ (.int .i64 r)).setCell ⟨ix, 1, none⟩ (.int .i64 c)).setCell ⟨ix, 2, none⟩ (.slice av cs.length cv)).setCell ⟨ix, 3, none⟩ (.int .i64 y)).setCell ⟨ix, 4, none⟩ (.int .i64 x)).setCell ⟨ix, 5, none⟩ (.bool bh)).setCell ⟨ix, 6, none⟩ (.string t) = W := ⟨_, rfl⟩
        have HXZ : Hid (Blk wz ix 24 #[.int .i64 r, .int .i64 c, .slice av cs.length cv, .int .i64 y, .int .i64 x, .bool bh, .string t]) := Lib.hid (by rw [← hwz]; exact ((((((HX.out.set 0 _).set 1 _).set 2 _).set 3 _).set 4 _).set 5 _).set 6 _)
        have hnew : w.heap.size ≤ ix := by have := HIX.out; omega
        have HCZ : Hid (Chg w wz nob) := Lib.hid (by
          rw [← hwz]
          exact ((((((HC.out.setCell (p := ⟨ix, 0, none⟩) (.inr hnew) _).setCell (p := ⟨ix, 1, none⟩) (.inr hnew) _).setCell (p := ⟨ix, 2, none⟩) (.inr hnew) _).setCell (p := ⟨ix, 3, none⟩) (.inr hnew) _).setCell (p := ⟨ix, 4, none⟩) (.inr hnew) _).setCell (p := ⟨ix, 5, none⟩) (.inr hnew) _).setCell (p := ⟨ix, 6, none⟩) (.inr hnew) _)
        have hcq : Chg w14 wz (fun k => k = ix) := by
          rw [← hwz]
          exact (((((((Chg.refl w14 (fun k => k = ix)).setCell (p := ⟨ix, 0, none⟩) (.inl rfl) _).setCell (p := ⟨ix, 1, none⟩) (.inl rfl) _).setCell (p := ⟨ix, 2, none⟩) (.inl rfl) _).setCell (p := ⟨ix, 3, none⟩) (.inl rfl) _).setCell (p := ⟨ix, 4, none⟩) (.inl rfl) _).setCell (p := ⟨ix, 5, none⟩) (.inl rfl) _).setCell (p := ⟨ix, 6, none⟩) (.inl rfl) _
        rw [hwz]
        clear hwz
        have z0 := HXZ.out.cell 0
        have z1 := HXZ.out.cell 1
        have z2 := HXZ.out.cell 2
        have z3 := HXZ.out.cell 3
        have z4 := HXZ.out.cell 4
        have z5 := HXZ.out.cell 5
        have z6 := HXZ.out.cell 6
        simp only [List.getElem?_toArray, List.getElem?_cons_zero, List.getElem?_cons_succ] at z0 z1 z2 z3 z4 z5 z6
        refine bodyPost_ret (v := .tuple #[scV r c (.slice av cs.length cv) y x bh t, .int .i64 0]) (by simp [results, Tryz.results29, go_sem, z0, z1, z2, z3, z4, z5, z6]) rfl ?_
        exact ⟨HCZ.out, .inl ⟨_, _, HN.out, rfl, ⟨HO.out.kept hcq (fun k hk e => HO.out.ne HX.out (by decide) (by rwa [← e])), fun k hk => Nat.le_trans HW9.out (HCS.out.2 k hk)⟩⟩⟩
    · have he0' : (E != 0) = true := by simpa using he0
      have he0'' : (E == 0) = false := by simpa using he0
      have HN : Hid (DQ = none) := Lib.hid (by rw [HDQ.out, he0'']; simp)
      clear he0 he0'' hE
      have x0 := HX.out.cell 0
      have x1 := HX.out.cell 1
      have x2 := HX.out.cell 2
      have x3 := HX.out.cell 3
      have x4 := HX.out.cell 4
      have x5 := HX.out.cell 5
      have x6 := HX.out.cell 6
      simp only [List.getElem?_toArray, List.getElem?_cons_zero, List.getElem?_cons_succ] at x0 x1 x2 x3 x4 x5 x6
      have f0 := HX.out.free 0
      have f1 := HX.out.free 1
      have f2 := HX.out.free 2
      have f3 := HX.out.free 3
      have f4 := HX.out.free 4
      have f5 := HX.out.free 5
      have f6 := HX.out.free 6
      go_wp2
      obtain ⟨wz, hwz⟩ : ∃ W, ((((((World.setCell w13 ⟨ix, 0, none⟩ (.int .i64 0)).setCell ⟨ix, 1, none⟩ (.int .i64 0)).setCell ⟨ix, 2, none⟩ (.slice none 0 0)).setCell ⟨ix, 3, none⟩ (.int .i64 0)).setCell ⟨ix, 4, none⟩ (.int .i64 0)).setCell ⟨ix, 5, none⟩ (.bool false)).setCell ⟨ix, 6, none⟩ (.string ⟨#[]⟩) = W := ⟨_, rfl⟩
      have HXZ : Hid (Blk wz ix 24 #[.int .i64 0, .int .i64 0, .slice none 0 0, .int .i64 0, .int .i64 0, .bool false, .string ⟨#[]⟩]) := Lib.hid (by rw [← hwz]; exact ((((((HX.out.set 0 _).set 1 _).set 2 _).set 3 _).set 4 _).set 5 _).set 6 _)
      have hnew : w.heap.size ≤ ix := by have := HIX.out; omega
      have HCZ : Hid (Chg w wz nob) := Lib.hid (by
        rw [← hwz]
        exact ((((((HC.out.setCell (p := ⟨ix, 0, none⟩) (.inr hnew) _).setCell (p := ⟨ix, 1, none⟩) (.inr hnew) _).setCell (p := ⟨ix, 2, none⟩) (.inr hnew) _).setCell (p := ⟨ix, 3, none⟩) (.inr hnew) _).setCell (p := ⟨ix, 4, none⟩) (.inr hnew) _).setCell (p := ⟨ix, 5, none⟩) (.inr hnew) _).setCell (p := ⟨ix, 6, none⟩) (.inr hnew) _)
      have hcq : Chg w13 wz (fun k => k = ix) := by
        rw [← hwz]
        exact (((((((Chg.refl w13 (fun k => k = ix)).setCell (p := ⟨ix, 0, none⟩) (.inl rfl) _).setCell (p := ⟨ix, 1, none⟩) (.inl rfl) _).setCell (p := ⟨ix, 2, none⟩) (.inl rfl) _).setCell (p := ⟨ix, 3, none⟩) (.inl rfl) _).setCell (p := ⟨ix, 4, none⟩) (.inl rfl) _).setCell (p := ⟨ix, 5, none⟩) (.inl rfl) _).setCell (p := ⟨ix, 6, none⟩) (.inl rfl) _
      rw [hwz]
      clear hwz
      have z0 := HXZ.out.cell 0
      have z1 := HXZ.out.cell 1
      have z2 := HXZ.out.cell 2
      have z3 := HXZ.out.cell 3
      have z4 := HXZ.out.cell 4
      have z5 := HXZ.out.cell 5
      have z6 := HXZ.out.cell 6
      simp only [List.getElem?_toArray, List.getElem?_cons_zero, List.getElem?_cons_succ] at z0 z1 z2 z3 z4 z5 z6
      refine bodyPost_ret (v := .tuple #[scV 0 0 (.slice none 0 0) 0 0 false ⟨#[]⟩, .int .i64 2]) (by simp [results, Tryz.results29, go_sem, z0, z1, z2, z3, z4, z5, z6]) rfl ?_
      exact ⟨HCZ.out, .inr ⟨HN.out, rfl⟩⟩
end Go.Proofs.YtmbdpcamhkdkmaaGreatDoor
