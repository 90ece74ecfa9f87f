/-
  Package diff: changed.
-/
import Derived.Test.YtmbdpcamhkdkmaaGreatDoorDiff5M
namespace Go.Proofs.YtmbdpcamhkdkmaaGreatDoor
open Go.RowKit
set_option linter.unusedVariables false
set_option linter.unusedSimpArgs false

def cq4 (a : Sc) (y x h : Nat) (t : ByteArray) (l : List Int) : Option Sc := (laysQ l.length 0 a.l l).bind fun z => some ⟨a.r, a.c, z, y, x, decide (h = 1), t⟩
def cq3 (a : Sc) (y x h : Nat) (l : List Int) : Option Sc := (textQ 256 l).bind fun t => cq4 a y x h t.1 t.2
def cq2 (a : Sc) (y x : Nat) (l : List Int) : Option Sc := (numM 1 l).bind fun h => cq3 a y x h.1 h.2
def cq1 (a : Sc) (y : Nat) (l : List Int) : Option Sc := (numM 200 l).bind fun x => cq2 a y x.1 x.2
theorem changedQ_eq (a : Sc) (l : List Int) : changedQ a l = (numM 60 l).bind fun y => cq1 a y.1 y.2 := rfl
theorem RdrR.aside {w w' : World} {g ib : Nat} {u : Value} {B : List Int} {p : Nat} {e : Int} {cs : Array Value} (h : RdrR w g u B p e) (hb : Blk w ib 24 cs) (hne : ib ≠ g) (hc : Chg w w' (fun k => k = ib)) : RdrR w' g u B p e :=
  ⟨h.blk.kept hc (fun e => hne e.symm), h.own.kept hc (fun k hk e => h.own.ne hb (by decide) (by rwa [← e])), h.byte, h.le, h.big⟩
set_option maxRecDepth 100000 in
set_option maxHeartbeats 4000000 in
theorem changed_any (w0 w : World) (a : Sc) (va : Value) (ha : Rd w 5 va a.l.length (cellsV a.l)) (hl : a.l.length ≤ 12000) (g : Nat) (u : Value) (B : List Int) (p : Nat) (hr : RdrR w g u B p 0) (hc : Chg w0 w nob) (hg : w0.heap.size ≤ g) (ht : Tab w0) :
    Calls Tryz.prog 27 #[scS a va, ptr g] w fun e w' => ∃ (s : Sc) (v : Value) (b : Bool), e = .returned (.tuple #[scS s v, .bool b]) ∧ b = (changedQ a (B.drop p)).isSome ∧ Cs w w' v s.l ∧ Chg w w' (fun k => k = g) ∧ (∀ z, changedQ a (B.drop p) = some z → z = s) ∧ s.l.length = a.l.length ∧ s.t.size ≤ 256 := by
  obtain ⟨aa, ca, rfl, _⟩ := ha.form
  have HA := Lib.hid ha
  have HR := Lib.hid hr
  have HC0 := Lib.hid hc
  have HG := Lib.hid hg
  have HT := Lib.hid ht
  have hgw := hr.blk.lt
  obtain ⟨RQ, hRQ⟩ : ∃ r, changedQ a (B.drop p) = r := ⟨_, rfl⟩
  have HQ : Hid (AtG RQ 0 ((numM 60 (B.drop p)).bind fun y => cq1 a y.1 y.2)) := Lib.hid (.inl ⟨rfl, by rw [← hRQ]; rfl⟩)
  rw [hRQ]
  clear ha hr hc hg ht hRQ
  go_enter Tryz.func27, Tryz.ntmps27
  go_upto_region 1 with (fail)
  obtain ⟨w1, hw⟩ : ∃ W, (w.alloc (.cells (scA a.r a.c (.slice aa a.l.length ca) a.y a.x a.h a.t) 24)).alloc (.cells zscr 24) = W := ⟨_, rfl⟩
  have hck : Chg w w1 nob := by rw [← hw]; exact ((Chg.refl w nob).alloc _).alloc _
  have HB : Hid (Blk w1 w.heap.size 24 (scA a.r a.c (.slice aa a.l.length ca) a.y a.x a.h a.t)) := Lib.hid (by rw [← hw]; exact (Blk.new w _ _).alloc _)
  have HX : Hid (Blk w1 (w.heap.size + 1) 24 zscr) := Lib.hid (by rw [← hw]; exact Blk.new2' w _ _ _)
  have hw' := hw
  simp only [zscr] at hw'
  rw [hw']
  clear hw hw'
  have HC : Hid (Chg w w1 (fun k => k = g)) := Lib.hid (hck.mono (fun _ _ h => h.elim))
  replace HC0 := Lib.hid (HC0.out.trans hck (fun _ _ h => h))
  replace HR := Lib.hid (HR.out.kept hck)
  have HA1 := Lib.hid (HA.out.kept hck (fun _ _ => id))
  obtain ⟨ia, hia⟩ : ∃ i, w.heap.size = i := ⟨_, rfl⟩
  have HIA := Lib.hid hia
  rw [hia] at HB HX ⊢
  clear hia hck
  obtain ⟨ix, hix⟩ : ∃ i, ia + 1 = i := ⟨_, rfl⟩
  have HIX : Hid (w.heap.size ≤ ix) := Lib.hid (by have := HIA.out; omega)
  rw [hix] at HX ⊢
  clear hix
  have x0 := HB.out.cell 0
  have x1 := HB.out.cell 1
  have x2 := HB.out.cell 2
  have x3 := HB.out.cell 3
  have x4 := HB.out.cell 4
  have x5 := HB.out.cell 5
  have x6 := HB.out.cell 6
  simp only [List.getElem?_toArray, List.getElem?_cons_zero, List.getElem?_cons_succ] at x0 x1 x2 x3 x4 x5 x6
  have f0 := HB.out.free 0
  have f1 := HB.out.free 1
  have f2 := HB.out.free 2
  have f3 := HB.out.free 3
  have f4 := HB.out.free 4
  have f5 := HB.out.free 5
  have f6 := HB.out.free 6
  go_wp2_with fail
  go_at_call 56
  refine (scopy_any w1 a _ HA1.out (by omega)).mono ?_
  rintro e w2 ⟨ac, nc, rfl, hcs, hck⟩
  have HCS : Hid (∀ k, blkOf (.slice ac a.l.length nc) k → w.heap.size ≤ k ∧ w0.heap.size ≤ k) := Lib.hid (fun k hk => ⟨Nat.le_trans HC.out.size (hcs.2 k hk), Nat.le_trans HC0.out.size (hcs.2 k hk)⟩)
  have HXB : Hid (ix < w2.heap.size) := Lib.hid (HX.out.kept hck id).lt
  replace HX := Lib.hid (HX.out.kept hck id)
  replace HC := Lib.hid (HC.out.trans hck (fun _ _ h => h.elim))
  replace HC0 := Lib.hid (HC0.out.trans hck (fun _ _ h => h))
  replace HR := Lib.hid (HR.out.kept hck)
  clear hck x0 x1 x2 x3 x4 x5 x6 f0 f1 f2 f3 f4 f5 f6 HB HA1
  go_upto_region 2 with (fail)
  obtain ⟨w3, hw⟩ : ∃ W, w2.alloc (.cells (scA a.r a.c (.slice ac a.l.length nc) a.y a.x a.h a.t) 24) = W := ⟨_, rfl⟩
  have hck : Chg w2 w3 nob := by rw [← hw]; exact (Chg.refl w2 nob).alloc _
  have HS : Hid (Scb w3 w2.heap.size (scA a.r a.c (.slice ac a.l.length nc) a.y a.x a.h a.t) (.slice ac a.l.length nc) a.l) := Lib.hid ⟨by rw [← hw]; exact Blk.new w2 _ _, hcs.1.kept hck (fun _ _ => id)⟩
  rw [hw]
  clear hw hcs
  have HXS : Hid (ix ≠ w2.heap.size) := Lib.hid (by have := HXB.out; omega)
  have HIS : Hid (w.heap.size ≤ w2.heap.size ∧ w0.heap.size ≤ w2.heap.size) := Lib.hid ⟨HC.out.size, HC0.out.size⟩
  have HGS : Hid (w2.heap.size ≠ g) := Lib.hid (fun e => by have := HR.out.blk.lt; omega)
  obtain ⟨ib, hib⟩ : ∃ i, w2.heap.size = i := ⟨_, rfl⟩
  rw [hib] at HS HXS HIS HGS ⊢
  clear hib
  replace HX := Lib.hid (HX.out.kept hck id)
  replace HC := Lib.hid (HC.out.trans hck (fun _ _ h => h.elim))
  replace HC0 := Lib.hid (HC0.out.trans hck (fun _ _ h => h))
  replace HR := Lib.hid (HR.out.kept hck)
  clear hck
  go_wp2_with fail
  go_at_call 53
  refine (rdnum_any w3 g u B p 0 HR.out 60).mono ?_
  rintro e' w4 ⟨y, p1, e1, rfl, hr⟩
  replace HQ : Hid (AtG RQ e1 _) := Lib.hid (HQ.out.num hr.s)
  replace HS := Lib.hid (HS.out.rd HR.out hr.c)
  replace HX := Lib.hid (HX.out.rd HR.out (by decide) hr.c)
  replace HC := Lib.hid (HC.out.trans hr.c (fun i hi h => h))
  replace HC0 := Lib.hid (HC0.out.trans hr.c (fun i hi e => by have := HG.out; omega))
  replace HR := Lib.hid hr.r
  have hley := hr.le
  clear hr
  go_wp2_with fail
  go_at_call 53
  refine (rdnum_any w4 g u B p1 e1 HR.out 200).mono ?_
  rintro e' w5 ⟨x, p2, e2, rfl, hr⟩
  replace HQ : Hid (AtG RQ e2 _) := Lib.hid (HQ.out.num hr.s)
  replace HS := Lib.hid (HS.out.rd HR.out hr.c)
  replace HX := Lib.hid (HX.out.rd HR.out (by decide) hr.c)
  replace HC := Lib.hid (HC.out.trans hr.c (fun i hi h => h))
  replace HC0 := Lib.hid (HC0.out.trans hr.c (fun i hi e => by have := HG.out; omega))
  replace HR := Lib.hid hr.r
  have hlex := hr.le
  clear hr
  go_wp2_with fail
  go_at_call 53
  refine (rdnum_any w5 g u B p2 e2 HR.out 1).mono ?_
  rintro e' w6 ⟨h, p3, e3, rfl, hr⟩
  replace HQ : Hid (AtG RQ e3 _) := Lib.hid (HQ.out.num hr.s)
  replace HS := Lib.hid (HS.out.rd HR.out hr.c)
  replace HX := Lib.hid (HX.out.rd HR.out (by decide) hr.c)
  replace HC := Lib.hid (HC.out.trans hr.c (fun i hi h => h))
  replace HC0 := Lib.hid (HC0.out.trans hr.c (fun i hi e => by have := HG.out; omega))
  replace HR := Lib.hid hr.r
  have hleh := hr.le
  clear hr
  have hwy : IntKind.i64.wrap (y : Int) = (y : Int) := by simp only [IntKind.wrap, IntKind.bits, IntKind.signed]; simp; omega
  have hwx : IntKind.i64.wrap (x : Int) = (x : Int) := by simp only [IntKind.wrap, IntKind.bits, IntKind.signed]; simp; omega
  obtain ⟨bh, hbh⟩ : ∃ b, decide (h = 1) = b := ⟨_, rfl⟩
  have hbh2 : ((h : Int) == 1) = bh := by rw [← hbh, Bool.eq_iff_iff]; simp; omega
  have u0 := HS.out.blk.cell 0
  have u1 := HS.out.blk.cell 1
  have u2 := HS.out.blk.cell 2
  have u3 := HS.out.blk.cell 3
  have u4 := HS.out.blk.cell 4
  have u5 := HS.out.blk.cell 5
  have u6 := HS.out.blk.cell 6
  simp only [List.getElem?_toArray, List.getElem?_cons_zero, List.getElem?_cons_succ] at u0 u1 u2 u3 u4 u5 u6
  have v3 := HS.out.blk.free 3
  have v4 := HS.out.blk.free 4
  have v5 := HS.out.blk.free 5
  have v6 := HS.out.blk.free 6
  go_upto_region 3 with (fail)
  obtain ⟨w7, hw⟩ : ∃ W, ((w6.setCell ⟨ib, 3, none⟩ (.int .i64 y)).setCell ⟨ib, 4, none⟩ (.int .i64 x)).setCell ⟨ib, 5, none⟩ (.bool bh) = W := ⟨_, rfl⟩
  have hck : Chg w6 w7 (fun k => k = ib) := by rw [← hw]; exact (((Chg.refl w6 (fun k => k = ib)).setCell (p := ⟨ib, 3, none⟩) (.inl rfl) _).setCell (p := ⟨ib, 4, none⟩) (.inl rfl) _).setCell (p := ⟨ib, 5, none⟩) (.inl rfl) _
  have hb7 : Blk w7 ib 24 (scA a.r a.c (.slice ac a.l.length nc) y x bh a.t) := by rw [← hw]; exact ((HS.out.blk.set 3 _).set 4 _).set 5 _
  rw [hw]
  replace HR := Lib.hid (HR.out.aside HS.out.blk HGS.out hck)
  replace HX := Lib.hid (HX.out.kept hck HXS.out)
  replace HS := Lib.hid (show Scb _ ib _ _ a.l from ⟨hb7, HS.out.own.kept hck (fun k hk e => HS.out.own.ne HS.out.blk (by decide) (by rwa [← e]))⟩)
  replace HC := Lib.hid (HC.out.trans hck (fun i hi e => by have := HIS.out; omega))
  replace HC0 := Lib.hid (HC0.out.trans hck (fun i hi e => by have := HIS.out; omega))
  clear hck u0 u1 u2 u3 u4 u5 u6 v3 v4 v5 v6
  clear hw hb7
  go_wp2_with fail
  go_at_call 54
  refine (rdtext_any w7 g u B p3 e3 HR.out 256 (by decide)).mono ?_
  rintro e' w8 ⟨t, p4, e4, rfl, hr⟩
  have hlt := hr.le
  replace HQ : Hid (AtG RQ e4 _) := Lib.hid (HQ.out.text hr.s)
  replace HS := Lib.hid (HS.out.rd HR.out hr.c)
  replace HX := Lib.hid (HX.out.rd HR.out (by decide) hr.c)
  replace HC := Lib.hid (HC.out.trans hr.c (fun i hi h => h))
  replace HC0 := Lib.hid (HC0.out.trans hr.c (fun i hi e => by have := HG.out; omega))
  replace HR := Lib.hid hr.r
  clear hr
  have u0 := HS.out.blk.cell 0
  have u1 := HS.out.blk.cell 1
  have u2 := HS.out.blk.cell 2
  have u3 := HS.out.blk.cell 3
  have u4 := HS.out.blk.cell 4
  have u5 := HS.out.blk.cell 5
  have u6 := HS.out.blk.cell 6
  simp only [List.getElem?_toArray, List.getElem?_cons_zero, List.getElem?_cons_succ] at u0 u1 u2 u3 u4 u5 u6
  have v3 := HS.out.blk.free 3
  have v4 := HS.out.blk.free 4
  have v5 := HS.out.blk.free 5
  have v6 := HS.out.blk.free 6
  go_upto_region 4 with (fail)
  obtain ⟨w9, hw⟩ : ∃ W, w8.setCell ⟨ib, 6, none⟩ (.string t) = W := ⟨_, rfl⟩
  have hck : Chg w8 w9 (fun k => k = ib) := by rw [← hw]; exact (Chg.refl w8 (fun k => k = ib)).setCell (p := ⟨ib, 6, none⟩) (.inl rfl) _
  have hb7 : Blk w9 ib 24 (scA a.r a.c (.slice ac a.l.length nc) y x bh t) := by rw [← hw]; exact HS.out.blk.set 6 _
  rw [hw]
  replace HR := Lib.hid (HR.out.aside HS.out.blk HGS.out hck)
  replace HX := Lib.hid (HX.out.kept hck HXS.out)
  replace HS := Lib.hid (show Scb _ ib _ _ a.l from ⟨hb7, HS.out.own.kept hck (fun k hk e => HS.out.own.ne HS.out.blk (by decide) (by rwa [← e]))⟩)
  replace HC := Lib.hid (HC.out.trans hck (fun i hi e => by have := HIS.out; omega))
  replace HC0 := Lib.hid (HC0.out.trans hck (fun i hi e => by have := HIS.out; omega))
  clear hck u0 u1 u2 u3 u4 u5 u6 v3 v4 v5 v6
  clear hw hb7
  have HQ4 : Hid (AtG RQ e4 (cq4 a y x h t (B.drop p4))) := HQ
  clear HQ
  refine wp_one [0] [2, 6, 8] [(2, [0]), (6, [0])] [0, 1, 2, 3, 4, 5, 6, 7, 8, 9] rfl (by kernel_rfl) (fun _ _ _ _ _ h => h) ?_; simp only [List.map_cons, List.map_nil, List.getElem?_toArray, List.getElem?_cons_zero, List.getElem?_cons_succ]
  obtain ⟨wD, hw⟩ : ∃ W, World.drew w9 = W := ⟨_, rfl⟩
  have hck : Chg w9 wD nob := by rw [← hw]; exact (Chg.refl w9 nob).drew
  rw [hw]
  replace HS := Lib.hid (HS.out.kept hck)
  replace HX := Lib.hid (HX.out.kept hck id)
  replace HR := Lib.hid (HR.out.kept hck)
  replace HC := Lib.hid (HC.out.trans hck (fun _ _ h => h.elim))
  replace HC0 := Lib.hid (HC0.out.trans hck (fun _ _ h => h))
  clear hw hck
  have u0 := HS.out.blk.cell 0
  have u1 := HS.out.blk.cell 1
  have u2 := HS.out.blk.cell 2
  have u3 := HS.out.blk.cell 3
  have u4 := HS.out.blk.cell 4
  have u5 := HS.out.blk.cell 5
  have u6 := HS.out.blk.cell 6
  simp only [List.getElem?_toArray, List.getElem?_cons_zero, List.getElem?_cons_succ] at u0 u1 u2 u3 u4 u5 u6
  have v3 := HS.out.blk.free 3
  have v4 := HS.out.blk.free 4
  have v5 := HS.out.blk.free 5
  have v6 := HS.out.blk.free 6
  by_cases he : e4 = 0
  · subst he
    obtain ⟨LQ, hLQ⟩ : ∃ z, laysQ (B.drop p4).length 0 a.l (B.drop p4) = z := ⟨_, rfl⟩
    have HLY := Lib.hid (lays_any w0 wD ib g a.r a.c a.l (.slice ac a.l.length nc) y x bh t u B p4 HS.out HR.out hl HC0.out HG.out (fun k hk => (HCS.out k hk).2) HT.out)
    rw [hLQ] at HLY
    have HRQ : Hid (RQ = LQ.bind fun z => some ⟨a.r, a.c, z, y, x, bh, t⟩) := Lib.hid (by
      rcases HQ4.out with ⟨_, h⟩ | ⟨h, _⟩
      · rw [h, cq4, hLQ, hbh]
      · exact absurd rfl h)
    clear hLQ HQ4
    (repeat (first | (apply can0; (· rfl); (· rfl); (· (intro w'; first | (go_simp; with_reducible rfl) | (go_simp; done))); simp only [Act.put, List.setIfInBounds_toArray, List.set_cons_zero, List.set_cons_succ]) | (apply can1; (· rfl); (· rfl); (· (first | (go_simp; with_reducible rfl) | (go_simp; done))); simp only [Act.put, List.setIfInBounds_toArray, List.set_cons_zero, List.set_cons_succ]) | (apply canN; (· rfl); (· rfl); simp only [Act.put, List.setIfInBounds_toArray, List.set_cons_zero, List.set_cons_succ]) | (apply canN1; (· rfl); (· rfl); simp only [Act.put, List.setIfInBounds_toArray, List.set_cons_zero, List.set_cons_succ]) | (apply can0; (· rfl); (· (go_simp; done)); (· (intro w'; first | (go_simp; with_reducible rfl) | (go_simp; done))); simp only [Act.put, List.setIfInBounds_toArray, List.set_cons_zero, List.set_cons_succ]) | (apply can1; (· rfl); (· (go_simp; done)); (· (first | (go_simp; with_reducible rfl) | (go_simp; done))); simp only [Act.put, List.setIfInBounds_toArray, List.set_cons_zero, List.set_cons_succ]) | (apply canN; (· rfl); (· (go_simp; done)); simp only [Act.put, List.setIfInBounds_toArray, List.set_cons_zero, List.set_cons_succ]) | (apply canN1; (· rfl); (· (go_simp; done)); simp only [Act.put, List.setIfInBounds_toArray, List.set_cons_zero, List.set_cons_succ])))
    refine canW rfl [0] rfl (fun K hK => ?_)
    go_simp
    go_at_call 25
    refine (err_any wD g u B p4 0 HR.out).mono ?_
    rintro e' xx ⟨rfl, rfl⟩
    (refine hK _ _ (fun u hu => by (simp only [List.mem_cons, List.not_mem_nil, or_false] at hu); (first | (subst hu; exact reRun_mk rfl (by first | (go_simp; with_reducible rfl) | (go_simp; done)) (holds_at rfl)) | ((repeat' (first | (rcases hu with rfl | hu) | (subst hu))) <;> exact reRun_mk rfl (by first | (go_simp; with_reducible rfl) | (go_simp; done)) (holds_at rfl)))) ?_; clear hK K; try simp only [Act.put, List.setIfInBounds_toArray, List.set_cons_zero, List.set_cons_succ])
    (repeat (first | (apply can0; (· rfl); (· rfl); (· (intro w'; first | (go_simp; with_reducible rfl) | (go_simp; done))); simp only [Act.put, List.setIfInBounds_toArray, List.set_cons_zero, List.set_cons_succ]) | (apply can1; (· rfl); (· rfl); (· (first | (go_simp; with_reducible rfl) | (go_simp; done))); simp only [Act.put, List.setIfInBounds_toArray, List.set_cons_zero, List.set_cons_succ]) | (apply canN; (· rfl); (· rfl); simp only [Act.put, List.setIfInBounds_toArray, List.set_cons_zero, List.set_cons_succ]) | (apply canN1; (· rfl); (· rfl); simp only [Act.put, List.setIfInBounds_toArray, List.set_cons_zero, List.set_cons_succ]) | (apply can0; (· rfl); (· (go_simp; done)); (· (intro w'; first | (go_simp; with_reducible rfl) | (go_simp; done))); simp only [Act.put, List.setIfInBounds_toArray, List.set_cons_zero, List.set_cons_succ]) | (apply can1; (· rfl); (· (go_simp; done)); (· (first | (go_simp; with_reducible rfl) | (go_simp; done))); simp only [Act.put, List.setIfInBounds_toArray, List.set_cons_zero, List.set_cons_succ]) | (apply canN; (· rfl); (· (go_simp; done)); simp only [Act.put, List.setIfInBounds_toArray, List.set_cons_zero, List.set_cons_succ]) | (apply canN1; (· rfl); (· (go_simp; done)); simp only [Act.put, List.setIfInBounds_toArray, List.set_cons_zero, List.set_cons_succ])))
    refine canW rfl [0] rfl (fun K hK => ?_)
    go_simp
    go_at_call 57
    refine HLY.out.mono ?_
    rintro e' wE ⟨cs, q, er, rfl, hs, hlen, hrd, hck, hz⟩
    have HZ := Lib.hid hz
    have HIC : Hid (∀ k, k = ix → ¬ (k = g ∨ blkOf (.slice ac a.l.length nc) k)) := Lib.hid (fun k hk hf => by
      subst hk
      rcases hf with h | h
      · subst h; have h1 := (HX.out.inj HR.out.blk).1; revert h1; decide
      · exact HS.out.own.ne HX.out (by decide) h)
    replace HX := Lib.hid (HX.out.kept hck (HIC.out ix rfl))
    replace HC : Hid (Chg w wE (fun k => k = g)) := Lib.hid (HC.out.trans hck (fun i hi h => h.elim id (fun h => by have := (HCS.out i h).1; omega)))
    have HO : Hid (Cs w wE (.slice ac a.l.length nc) cs) := Lib.hid ⟨by have := hs.own; rwa [hlen] at this ⊢, fun k hk => (HCS.out k hk).1⟩
    have HLN := Lib.hid hlen
    have HS2 := HS
    replace HS := Lib.hid hs
    clear hs hlen hrd hck hz HS2
    clear u0 u1 u2 u3 u4 u5 u6 v3 v4 v5 v6
    have u0 := HS.out.blk.cell 0
    have u1 := HS.out.blk.cell 1
    have u2 := HS.out.blk.cell 2
    have u3 := HS.out.blk.cell 3
    have u4 := HS.out.blk.cell 4
    have u5 := HS.out.blk.cell 5
    have u6 := HS.out.blk.cell 6
    simp only [List.getElem?_toArray, List.getElem?_cons_zero, List.getElem?_cons_succ] at u0 u1 u2 u3 u4 u5 u6
    have v3 := HS.out.blk.free 3
    have v4 := HS.out.blk.free 4
    have v5 := HS.out.blk.free 5
    have v6 := HS.out.blk.free 6
    (refine hK _ _ (fun u hu => by (simp only [List.mem_cons, List.not_mem_nil, or_false] at hu); (first | (subst hu; exact reRun_mk rfl (by first | (go_simp; with_reducible rfl) | (go_simp; done)) (holds_at rfl)) | ((repeat' (first | (rcases hu with rfl | hu) | (subst hu))) <;> exact reRun_mk rfl (by first | (go_simp; with_reducible rfl) | (go_simp; done)) (holds_at rfl)))) ?_; clear hK K; try simp only [Act.put, List.setIfInBounds_toArray, List.set_cons_zero, List.set_cons_succ])
    (repeat (first | (apply can0; (· rfl); (· rfl); (· (intro w'; first | (go_simp; with_reducible rfl) | (go_simp; done))); simp only [Act.put, List.setIfInBounds_toArray, List.set_cons_zero, List.set_cons_succ]) | (apply can1; (· rfl); (· rfl); (· (first | (go_simp; with_reducible rfl) | (go_simp; done))); simp only [Act.put, List.setIfInBounds_toArray, List.set_cons_zero, List.set_cons_succ]) | (apply canN; (· rfl); (· rfl); simp only [Act.put, List.setIfInBounds_toArray, List.set_cons_zero, List.set_cons_succ]) | (apply canN1; (· rfl); (· rfl); simp only [Act.put, List.setIfInBounds_toArray, List.set_cons_zero, List.set_cons_succ]) | (apply can0; (· rfl); (· (go_simp; done)); (· (intro w'; first | (go_simp; with_reducible rfl) | (go_simp; done))); simp only [Act.put, List.setIfInBounds_toArray, List.set_cons_zero, List.set_cons_succ]) | (apply can1; (· rfl); (· (go_simp; done)); (· (first | (go_simp; with_reducible rfl) | (go_simp; done))); simp only [Act.put, List.setIfInBounds_toArray, List.set_cons_zero, List.set_cons_succ]) | (apply canN; (· rfl); (· (go_simp; done)); simp only [Act.put, List.setIfInBounds_toArray, List.set_cons_zero, List.set_cons_succ]) | (apply canN1; (· rfl); (· (go_simp; done)); simp only [Act.put, List.setIfInBounds_toArray, List.set_cons_zero, List.set_cons_succ])))
    have x0 := HX.out.cell 0
    have x1 := HX.out.cell 1
    have x2 := HX.out.cell 2
    have x3 := HX.out.cell 3
    have x4 := HX.out.cell 4
    have x5 := HX.out.cell 5
    have x6 := HX.out.cell 6
    simp only [List.getElem?_toArray, List.getElem?_cons_zero, List.getElem?_cons_succ] at x0 x1 x2 x3 x4 x5 x6
    have f0 := HX.out.free 0
    have f1 := HX.out.free 1
    have f2 := HX.out.free 2
    have f3 := HX.out.free 3
    have f4 := HX.out.free 4
    have f5 := HX.out.free 5
    have f6 := HX.out.free 6
    refine canW rfl [] rfl (fun K hK => ?_)
    go_simp
    (refine hK _ _ (fun u hu => by cases hu) ?_; clear hK K; try simp only [Act.put, List.setIfInBounds_toArray, List.set_cons_zero, List.set_cons_succ])
    (repeat (first | (apply can0; (· rfl); (· rfl); (· (intro w'; first | (go_simp; with_reducible rfl) | (go_simp; done))); simp only [Act.put, List.setIfInBounds_toArray, List.set_cons_zero, List.set_cons_succ]) | (apply can1; (· rfl); (· rfl); (· (first | (go_simp; with_reducible rfl) | (go_simp; done))); simp only [Act.put, List.setIfInBounds_toArray, List.set_cons_zero, List.set_cons_succ]) | (apply canN; (· rfl); (· rfl); simp only [Act.put, List.setIfInBounds_toArray, List.set_cons_zero, List.set_cons_succ]) | (apply canN1; (· rfl); (· rfl); simp only [Act.put, List.setIfInBounds_toArray, List.set_cons_zero, List.set_cons_succ]) | (apply can0; (· rfl); (· (go_simp; done)); (· (intro w'; first | (go_simp; with_reducible rfl) | (go_simp; done))); simp only [Act.put, List.setIfInBounds_toArray, List.set_cons_zero, List.set_cons_succ]) | (apply can1; (· rfl); (· (go_simp; done)); (· (first | (go_simp; with_reducible rfl) | (go_simp; done))); simp only [Act.put, List.setIfInBounds_toArray, List.set_cons_zero, List.set_cons_succ]) | (apply canN; (· rfl); (· (go_simp; done)); simp only [Act.put, List.setIfInBounds_toArray, List.set_cons_zero, List.set_cons_succ]) | (apply canN1; (· rfl); (· (go_simp; done)); simp only [Act.put, List.setIfInBounds_toArray, List.set_cons_zero, List.set_cons_succ])))
    refine canE ?_
    obtain ⟨wz, hwz⟩ : ∃ W, ((((((World.setCell wE ⟨ix, 0, none⟩ (.int .i64 a.r)).setCell ⟨ix, 1, none⟩ (.int .i64 a.c)).setCell ⟨ix, 2, none⟩ (.slice ac a.l.length nc)).setCell ⟨ix, 3, none⟩ (.int .i64 y)).setCell ⟨ix, 4, none⟩ (.int .i64 x)).setCell ⟨ix, 5, none⟩ (.bool bh)).setCell ⟨ix, 6, none⟩ (.string t) = W := ⟨_, rfl⟩
    have HXZ : Hid (Blk wz ix 24 #[.int .i64 a.r, .int .i64 a.c, .slice ac a.l.length nc, .int .i64 y, .int .i64 x, .bool bh, .string t]) := Lib.hid (by rw [← hwz]; exact ((((((HX.out.set 0 _).set 1 _).set 2 _).set 3 _).set 4 _).set 5 _).set 6 _)
    have hnew : w.heap.size ≤ ix := by have := HIX.out; omega
    have HCZ : Hid (Chg w wz (fun k => k = g)) := Lib.hid (by
      rw [← hwz]
      exact ((((((HC.out.setCell (p := ⟨ix, 0, none⟩) (.inr hnew) _).setCell (p := ⟨ix, 1, none⟩) (.inr hnew) _).setCell (p := ⟨ix, 2, none⟩) (.inr hnew) _).setCell (p := ⟨ix, 3, none⟩) (.inr hnew) _).setCell (p := ⟨ix, 4, none⟩) (.inr hnew) _).setCell (p := ⟨ix, 5, none⟩) (.inr hnew) _).setCell (p := ⟨ix, 6, none⟩) (.inr hnew) _)
    have hcq : Chg wE wz (fun k => k = ix) := by
      rw [← hwz]
      exact (((((((Chg.refl wE (fun k => k = ix)).setCell (p := ⟨ix, 0, none⟩) (.inl rfl) _).setCell (p := ⟨ix, 1, none⟩) (.inl rfl) _).setCell (p := ⟨ix, 2, none⟩) (.inl rfl) _).setCell (p := ⟨ix, 3, none⟩) (.inl rfl) _).setCell (p := ⟨ix, 4, none⟩) (.inl rfl) _).setCell (p := ⟨ix, 5, none⟩) (.inl rfl) _).setCell (p := ⟨ix, 6, none⟩) (.inl rfl) _
    rw [hwz]
    clear hwz
    have z0 := HXZ.out.cell 0
    have z1 := HXZ.out.cell 1
    have z2 := HXZ.out.cell 2
    have z3 := HXZ.out.cell 3
    have z4 := HXZ.out.cell 4
    have z5 := HXZ.out.cell 5
    have z6 := HXZ.out.cell 6
    simp only [List.getElem?_toArray, List.getElem?_cons_zero, List.getElem?_cons_succ] at z0 z1 z2 z3 z4 z5 z6
    go_wp2
    refine bodyPost_ret (v := .tuple #[scS ⟨a.r, a.c, cs, y, x, bh, t⟩ (.slice ac a.l.length nc), .bool LQ.isSome]) (by simp [results, Tryz.results27, go_sem, z0, z1, z2, z3, z4, z5, z6]) rfl ?_
    refine ⟨⟨a.r, a.c, cs, y, x, bh, t⟩, _, _, rfl, ?_, HO.out.ofChg hcq (fun k hk e => HS.out.own.ne HX.out (by decide) (by rwa [← e])), HCZ.out, fun z hz => ?_, HLN.out, hlt⟩
    · rw [HRQ.out]
      cases LQ <;> rfl
    · rw [HRQ.out] at hz
      cases hq : LQ with
      | none => rw [hq] at hz; cases hz
      | some l => rw [hq, Option.bind_some] at hz; cases hz; rw [HZ.out l hq]
  · have he' : (e4 == 0) = false := by simpa using he
    have HN : Hid (RQ = none) := Lib.hid (by
      rcases HQ4.out with ⟨h, _⟩ | ⟨_, h⟩
      · exact absurd h he
      · exact h)
    clear he HQ4
    (repeat (first | (apply can0; (· rfl); (· rfl); (· (intro w'; first | (go_simp; with_reducible rfl) | (go_simp; done))); simp only [Act.put, List.setIfInBounds_toArray, List.set_cons_zero, List.set_cons_succ]) | (apply can1; (· rfl); (· rfl); (· (first | (go_simp; with_reducible rfl) | (go_simp; done))); simp only [Act.put, List.setIfInBounds_toArray, List.set_cons_zero, List.set_cons_succ]) | (apply canN; (· rfl); (· rfl); simp only [Act.put, List.setIfInBounds_toArray, List.set_cons_zero, List.set_cons_succ]) | (apply canN1; (· rfl); (· rfl); simp only [Act.put, List.setIfInBounds_toArray, List.set_cons_zero, List.set_cons_succ]) | (apply can0; (· rfl); (· (go_simp; done)); (· (intro w'; first | (go_simp; with_reducible rfl) | (go_simp; done))); simp only [Act.put, List.setIfInBounds_toArray, List.set_cons_zero, List.set_cons_succ]) | (apply can1; (· rfl); (· (go_simp; done)); (· (first | (go_simp; with_reducible rfl) | (go_simp; done))); simp only [Act.put, List.setIfInBounds_toArray, List.set_cons_zero, List.set_cons_succ]) | (apply canN; (· rfl); (· (go_simp; done)); simp only [Act.put, List.setIfInBounds_toArray, List.set_cons_zero, List.set_cons_succ]) | (apply canN1; (· rfl); (· (go_simp; done)); simp only [Act.put, List.setIfInBounds_toArray, List.set_cons_zero, List.set_cons_succ])))
    refine canW rfl [0] rfl (fun K hK => ?_)
    go_simp
    go_at_call 25
    refine (err_any wD g u B p4 e4 HR.out).mono ?_
    rintro e' xx ⟨rfl, rfl⟩
    (refine hK _ _ (fun u hu => by (simp only [List.mem_cons, List.not_mem_nil, or_false] at hu); (first | (subst hu; exact reRun_mk rfl (by first | (go_simp; with_reducible rfl) | (go_simp; done)) (holds_at rfl)) | ((repeat' (first | (rcases hu with rfl | hu) | (subst hu))) <;> exact reRun_mk rfl (by first | (go_simp; with_reducible rfl) | (go_simp; done)) (holds_at rfl)))) ?_; clear hK K; try simp only [Act.put, List.setIfInBounds_toArray, List.set_cons_zero, List.set_cons_succ])
    (repeat (first | (apply can0; (· rfl); (· rfl); (· (intro w'; first | (go_simp; with_reducible rfl) | (go_simp; done))); simp only [Act.put, List.setIfInBounds_toArray, List.set_cons_zero, List.set_cons_succ]) | (apply can1; (· rfl); (· rfl); (· (first | (go_simp; with_reducible rfl) | (go_simp; done))); simp only [Act.put, List.setIfInBounds_toArray, List.set_cons_zero, List.set_cons_succ]) | (apply canN; (· rfl); (· rfl); simp only [Act.put, List.setIfInBounds_toArray, List.set_cons_zero, List.set_cons_succ]) | (apply canN1; (· rfl); (· rfl); simp only [Act.put, List.setIfInBounds_toArray, List.set_cons_zero, List.set_cons_succ]) | (apply can0; (· rfl); (· (go_simp; done)); (· (intro w'; first | (go_simp; with_reducible rfl) | (go_simp; done))); simp only [Act.put, List.setIfInBounds_toArray, List.set_cons_zero, List.set_cons_succ]) | (apply can1; (· rfl); (· (go_simp; done)); (· (first | (go_simp; with_reducible rfl) | (go_simp; done))); simp only [Act.put, List.setIfInBounds_toArray, List.set_cons_zero, List.set_cons_succ]) | (apply canN; (· rfl); (· (go_simp; done)); simp only [Act.put, List.setIfInBounds_toArray, List.set_cons_zero, List.set_cons_succ]) | (apply canN1; (· rfl); (· (go_simp; done)); simp only [Act.put, List.setIfInBounds_toArray, List.set_cons_zero, List.set_cons_succ])))
    refine canM rfl [0] rfl rfl (fun u hu => by (simp only [List.mem_cons, List.not_mem_nil, or_false] at hu); subst hu; exact reRun_mk rfl (by first | (go_simp; with_reducible rfl) | (go_simp; done)) (holds_at rfl)) ?_
    (repeat (first | (apply can0; (· rfl); (· rfl); (· (intro w'; first | (go_simp; with_reducible rfl) | (go_simp; done))); simp only [Act.put, List.setIfInBounds_toArray, List.set_cons_zero, List.set_cons_succ]) | (apply can1; (· rfl); (· rfl); (· (first | (go_simp; with_reducible rfl) | (go_simp; done))); simp only [Act.put, List.setIfInBounds_toArray, List.set_cons_zero, List.set_cons_succ]) | (apply canN; (· rfl); (· rfl); simp only [Act.put, List.setIfInBounds_toArray, List.set_cons_zero, List.set_cons_succ]) | (apply canN1; (· rfl); (· rfl); simp only [Act.put, List.setIfInBounds_toArray, List.set_cons_zero, List.set_cons_succ]) | (apply can0; (· rfl); (· (go_simp; done)); (· (intro w'; first | (go_simp; with_reducible rfl) | (go_simp; done))); simp only [Act.put, List.setIfInBounds_toArray, List.set_cons_zero, List.set_cons_succ]) | (apply can1; (· rfl); (· (go_simp; done)); (· (first | (go_simp; with_reducible rfl) | (go_simp; done))); simp only [Act.put, List.setIfInBounds_toArray, List.set_cons_zero, List.set_cons_succ]) | (apply canN; (· rfl); (· (go_simp; done)); simp only [Act.put, List.setIfInBounds_toArray, List.set_cons_zero, List.set_cons_succ]) | (apply canN1; (· rfl); (· (go_simp; done)); simp only [Act.put, List.setIfInBounds_toArray, List.set_cons_zero, List.set_cons_succ])))
    have x0 := HX.out.cell 0
    have x1 := HX.out.cell 1
    have x2 := HX.out.cell 2
    have x3 := HX.out.cell 3
    have x4 := HX.out.cell 4
    have x5 := HX.out.cell 5
    have x6 := HX.out.cell 6
    simp only [List.getElem?_toArray, List.getElem?_cons_zero, List.getElem?_cons_succ] at x0 x1 x2 x3 x4 x5 x6
    have f0 := HX.out.free 0
    have f1 := HX.out.free 1
    have f2 := HX.out.free 2
    have f3 := HX.out.free 3
    have f4 := HX.out.free 4
    have f5 := HX.out.free 5
    have f6 := HX.out.free 6
    refine canW rfl [] rfl (fun K hK => ?_)
    go_simp
    (refine hK _ _ (fun u hu => by cases hu) ?_; clear hK K; try simp only [Act.put, List.setIfInBounds_toArray, List.set_cons_zero, List.set_cons_succ])
    (repeat (first | (apply can0; (· rfl); (· rfl); (· (intro w'; first | (go_simp; with_reducible rfl) | (go_simp; done))); simp only [Act.put, List.setIfInBounds_toArray, List.set_cons_zero, List.set_cons_succ]) | (apply can1; (· rfl); (· rfl); (· (first | (go_simp; with_reducible rfl) | (go_simp; done))); simp only [Act.put, List.setIfInBounds_toArray, List.set_cons_zero, List.set_cons_succ]) | (apply canN; (· rfl); (· rfl); simp only [Act.put, List.setIfInBounds_toArray, List.set_cons_zero, List.set_cons_succ]) | (apply canN1; (· rfl); (· rfl); simp only [Act.put, List.setIfInBounds_toArray, List.set_cons_zero, List.set_cons_succ]) | (apply can0; (· rfl); (· (go_simp; done)); (· (intro w'; first | (go_simp; with_reducible rfl) | (go_simp; done))); simp only [Act.put, List.setIfInBounds_toArray, List.set_cons_zero, List.set_cons_succ]) | (apply can1; (· rfl); (· (go_simp; done)); (· (first | (go_simp; with_reducible rfl) | (go_simp; done))); simp only [Act.put, List.setIfInBounds_toArray, List.set_cons_zero, List.set_cons_succ]) | (apply canN; (· rfl); (· (go_simp; done)); simp only [Act.put, List.setIfInBounds_toArray, List.set_cons_zero, List.set_cons_succ]) | (apply canN1; (· rfl); (· (go_simp; done)); simp only [Act.put, List.setIfInBounds_toArray, List.set_cons_zero, List.set_cons_succ])))
    refine canE ?_
    obtain ⟨wz, hwz⟩ : ∃ W, ((((((World.setCell wD ⟨ix, 0, none⟩ (.int .i64 a.r)).setCell ⟨ix, 1, none⟩ (.int .i64 a.c)).setCell ⟨ix, 2, none⟩ (.slice ac a.l.length nc)).setCell ⟨ix, 3, none⟩ (.int .i64 y)).setCell ⟨ix, 4, none⟩ (.int .i64 x)).setCell ⟨ix, 5, none⟩ (.bool bh)).setCell ⟨ix, 6, none⟩ (.string t) = W := ⟨_, rfl⟩
    have HXZ : Hid (Blk wz ix 24 #[.int .i64 a.r, .int .i64 a.c, .slice ac a.l.length nc, .int .i64 y, .int .i64 x, .bool bh, .string t]) := Lib.hid (by rw [← hwz]; exact ((((((HX.out.set 0 _).set 1 _).set 2 _).set 3 _).set 4 _).set 5 _).set 6 _)
    have hnew : w.heap.size ≤ ix := by have := HIX.out; omega
    have HCZ : Hid (Chg w wz (fun k => k = g)) := Lib.hid (by
      rw [← hwz]
      exact ((((((HC.out.setCell (p := ⟨ix, 0, none⟩) (.inr hnew) _).setCell (p := ⟨ix, 1, none⟩) (.inr hnew) _).setCell (p := ⟨ix, 2, none⟩) (.inr hnew) _).setCell (p := ⟨ix, 3, none⟩) (.inr hnew) _).setCell (p := ⟨ix, 4, none⟩) (.inr hnew) _).setCell (p := ⟨ix, 5, none⟩) (.inr hnew) _).setCell (p := ⟨ix, 6, none⟩) (.inr hnew) _)
    have hcq : Chg wD wz (fun k => k = ix) := by
      rw [← hwz]
      exact (((((((Chg.refl wD (fun k => k = ix)).setCell (p := ⟨ix, 0, none⟩) (.inl rfl) _).setCell (p := ⟨ix, 1, none⟩) (.inl rfl) _).setCell (p := ⟨ix, 2, none⟩) (.inl rfl) _).setCell (p := ⟨ix, 3, none⟩) (.inl rfl) _).setCell (p := ⟨ix, 4, none⟩) (.inl rfl) _).setCell (p := ⟨ix, 5, none⟩) (.inl rfl) _).setCell (p := ⟨ix, 6, none⟩) (.inl rfl) _
    rw [hwz]
    clear hwz
    have z0 := HXZ.out.cell 0
    have z1 := HXZ.out.cell 1
    have z2 := HXZ.out.cell 2
    have z3 := HXZ.out.cell 3
    have z4 := HXZ.out.cell 4
    have z5 := HXZ.out.cell 5
    have z6 := HXZ.out.cell 6
    simp only [List.getElem?_toArray, List.getElem?_cons_zero, List.getElem?_cons_succ] at z0 z1 z2 z3 z4 z5 z6
    go_wp2
    refine bodyPost_ret (v := .tuple #[scS ⟨a.r, a.c, a.l, y, x, bh, t⟩ (.slice ac a.l.length nc), .bool false]) (by simp [results, Tryz.results27, go_sem, z0, z1, z2, z3, z4, z5, z6]) rfl ?_
    refine ⟨⟨a.r, a.c, a.l, y, x, bh, t⟩, _, _, rfl, by rw [HN.out]; rfl, ⟨HS.out.own.kept hcq (fun k hk e => HS.out.own.ne HX.out (by decide) (by rwa [← e])), fun k hk => (HCS.out k hk).1⟩, HCZ.out, fun z hz => (by rw [HN.out] at hz; cases hz), rfl, hlt⟩
end Go.Proofs.YtmbdpcamhkdkmaaGreatDoor
