/-
  The document's ApplyDiff (tikref13).
-/
import Derived.Test.YtmbdpcamhkdkmaaGreatDoorMg38
import Derived.Test.YtmbdpcamhkdkmaaGreatDoorMkDM
import Derived.Test.YtmbdpcamhkdkmaaGreatDoorDdecM
import Derived.Test.YtmbdpcamhkdkmaaGreatDoorDiff7M
namespace Go.Proofs.YtmbdpcamhkdkmaaGreatDoor
open Go.RowKit
set_option linter.unusedVariables false
set_option linter.unusedSimpArgs false

def pd5 (a : Sc) (y x h : Nat) (t : ByteArray) (l : List Int) : Option Sc := (laysQ l.length 0 a.l l).bind fun z => some ⟨a.r, a.c, z, y, x, decide (h = 1), t⟩
def pd4 (a : Sc) (y x h : Nat) (l : List Int) : Option Sc := (textQ 1000 l).bind fun t => pd5 a y x h t.1 t.2
def pd3 (a : Sc) (y x : Nat) (l : List Int) : Option Sc := (numM 1 l).bind fun h => pd4 a y x h.1 h.2
def pd2 (a : Sc) (y : Nat) (l : List Int) : Option Sc := (numM 200 l).bind fun x => pd3 a y x.1 x.2
def pd1 (a : Sc) (l : List Int) : Option Sc := (numM 60 l).bind fun y => pd2 a y.1 y.2
theorem partD_eq (a : Sc) (d : List Int) : partD a d = (numM 0 d).bind fun k => pd1 a k.2 := rfl
theorem Scb.rdD {w w' : World} {ib : Nat} {A : Array Value} {v : Value} {l : List Ce} {g p : Nat} {u : Value} {B : List Int} {e : Int} (h : Scb w ib A v l) (hr : RdD w g u B p e) (hc : Chg w w' (fun k => k = g)) : Scb w' ib A v l :=
  ⟨h.blk.rdD hr (by decide) hc, h.own.kept hc (fun k hk e => h.own.ne hr.blk (by decide) (by rwa [← e]))⟩
attribute [local go_sem ↓] run_cut5_at
attribute [local go_sem ↓] run_cut_l
set_option maxRecDepth 100000 in
set_option maxHeartbeats 40000000 in
theorem rapply_any (w : World) (a : Sc) (va : Value) (ha : Rd w 5 va a.l.length (cellsV a.l)) (hl : a.l.length ≤ 100000) (hs : a.t.size ≤ 100000) (vd : Value) (d : List Int) (hd : By w vd d) (hdl : d.length ≤ 1000000) (ht : Tab w) :
    Calls Tryz.prog 9 #[scS a va, vd] w fun e w' => Chg w w' nob ∧ ApQ a d w w' e := by
  obtain ⟨aa, ca, rfl, _⟩ := ha.form
  obtain ⟨ad, cd, rfl, hdc⟩ := hd.form
  have HA := Lib.hid ha
  have HD := Lib.hid hd
  have HT := Lib.hid ht
  obtain ⟨m1, hm1⟩ : ∃ m, a.may = m := ⟨_, rfl⟩
  have HM1 := Lib.hid hm1
  clear ha hd ht hm1
  go_enter Tryz.func9, Tryz.ntmps9
  go_upto_region 1 with (fail)
  obtain ⟨w1, hw⟩ : ∃ W, (w.alloc (.cells (scA a.r a.c (.slice aa a.l.length ca) a.y a.x a.h a.t) 24)).alloc (.cells zscr 24) = W := ⟨_, rfl⟩
  have HC : Hid (Chg w w1 nob) := Lib.hid (by rw [← hw]; exact ((Chg.refl w nob).alloc _).alloc _)
  have HB : Hid (Blk w1 w.heap.size 24 (scA a.r a.c (.slice aa a.l.length ca) a.y a.x a.h a.t)) := Lib.hid (by rw [← hw]; exact (Blk.new w _ _).alloc _)
  have HX : Hid (Blk w1 (w.heap.size + 1) 24 zscr) := Lib.hid (by rw [← hw]; exact Blk.new2' w _ _ _)
  have hw' := hw
  simp only [zscr] at hw'
  rw [hw']
  clear hw hw'
  obtain ⟨ia, hia⟩ : ∃ i, w.heap.size = i := ⟨_, rfl⟩
  have HIA := Lib.hid hia
  rw [hia] at HB HX ⊢
  clear hia
  obtain ⟨ix, hix⟩ : ∃ i, ia + 1 = i := ⟨_, rfl⟩
  have HIX : Hid (w.heap.size ≤ ix) := Lib.hid (by have := HIA.out; omega)
  rw [hix] at HX ⊢
  clear hix
  have u0 := HB.out.cell 0
  have u1 := HB.out.cell 1
  have u2 := HB.out.cell 2
  have u3 := HB.out.cell 3
  have u4 := HB.out.cell 4
  have u5 := HB.out.cell 5
  have u6 := HB.out.cell 6
  simp only [List.getElem?_toArray, List.getElem?_cons_zero, List.getElem?_cons_succ] at u0 u1 u2 u3 u4 u5 u6
  have HMA := Lib.hid (rmayscr_any w1 a.r a.c a.y a.x a.h a.t (.slice aa a.l.length ca) a.l (HA.out.kept HC.out (fun _ _ => id)) (by omega) (by omega))
  rw [show mayS a.r a.c a.l a.y a.x a.t = m1 from HM1.out] at HMA
  go_wp2_with fail
  go_at_call 18
  refine HMA.out.mono ?_
  rintro e w2 ⟨rfl, hck⟩
  replace HB := Lib.hid (HB.out.kept hck id)
  replace HX := Lib.hid (HX.out.kept hck id)
  replace HC := Lib.hid (HC.out.trans hck (fun _ _ h => h))
  clear hck HMA
  clear u0 u1 u2 u3 u4 u5 u6
  cases m1 with
  | false =>
    have x0 := HX.out.cell 0
    have x1 := HX.out.cell 1
    have x2 := HX.out.cell 2
    have x3 := HX.out.cell 3
    have x4 := HX.out.cell 4
    have x5 := HX.out.cell 5
    have x6 := HX.out.cell 6
    simp only [List.getElem?_toArray, List.getElem?_cons_zero, List.getElem?_cons_succ] at x0 x1 x2 x3 x4 x5 x6
    have f0 := HX.out.free 0
    have f1 := HX.out.free 1
    have f2 := HX.out.free 2
    have f3 := HX.out.free 3
    have f4 := HX.out.free 4
    have f5 := HX.out.free 5
    have f6 := HX.out.free 6
    go_wp2
    obtain ⟨wz, hwz⟩ : ∃ W, ((((((World.setCell w2 ⟨ix, 0, none⟩ (.int .i64 0)).setCell ⟨ix, 1, none⟩ (.int .i64 0)).setCell ⟨ix, 2, none⟩ (.slice none 0 0)).setCell ⟨ix, 3, none⟩ (.int .i64 0)).setCell ⟨ix, 4, none⟩ (.int .i64 0)).setCell ⟨ix, 5, none⟩ (.bool false)).setCell ⟨ix, 6, none⟩ (.string ⟨#[]⟩) = W := ⟨_, rfl⟩
    have HXZ : Hid (Blk wz ix 24 #[.int .i64 0, .int .i64 0, .slice none 0 0, .int .i64 0, .int .i64 0, .bool false, .string ⟨#[]⟩]) := Lib.hid (by rw [← hwz]; exact ((((((HX.out.set 0 _).set 1 _).set 2 _).set 3 _).set 4 _).set 5 _).set 6 _)
    have hnew : w.heap.size ≤ ix := by have := HIX.out; omega
    have hcq : Chg w2 wz (fun k => k = ix) := by
      rw [← hwz]
      exact (((((((Chg.refl w2 (fun k => k = ix)).setCell (p := ⟨ix, 0, none⟩) (.inl rfl) _).setCell (p := ⟨ix, 1, none⟩) (.inl rfl) _).setCell (p := ⟨ix, 2, none⟩) (.inl rfl) _).setCell (p := ⟨ix, 3, none⟩) (.inl rfl) _).setCell (p := ⟨ix, 4, none⟩) (.inl rfl) _).setCell (p := ⟨ix, 5, none⟩) (.inl rfl) _).setCell (p := ⟨ix, 6, none⟩) (.inl rfl) _
    have HCZ : Hid (Chg w wz nob) := Lib.hid (HC.out.trans hcq (fun i hi e => by omega))
    rw [hwz]
    clear hwz
    have z0 := HXZ.out.cell 0
    have z1 := HXZ.out.cell 1
    have z2 := HXZ.out.cell 2
    have z3 := HXZ.out.cell 3
    have z4 := HXZ.out.cell 4
    have z5 := HXZ.out.cell 5
    have z6 := HXZ.out.cell 6
    simp only [List.getElem?_toArray, List.getElem?_cons_zero, List.getElem?_cons_succ] at z0 z1 z2 z3 z4 z5 z6
    refine bodyPost_ret (v := .tuple #[scV 0 0 (.slice none 0 0) 0 0 false ⟨#[]⟩, .int .i64 1]) (by simp [results, Tryz.results9, go_sem, z0, z1, z2, z3, z4, z5, z6]) rfl ?_
    exact ⟨HCZ.out, .range HM1.out rfl⟩
  | true =>
    have hal : a.l.length ≤ 12000 ∧ 1 ≤ a.l.length := by
      obtain ⟨⟨p1, q1⟩, ⟨p2, q2⟩, ⟨_, _⟩, ⟨_, _⟩, q3, _, q4⟩ := Sc.may_b HM1.out
      have h1 : a.r * a.c ≤ 60 * 200 := Int.mul_le_mul q1 q2 (by omega) (by omega)
      have h2 : (1 : Int) * 1 ≤ a.r * a.c := Int.mul_le_mul p1 p2 (by decide) (by omega)
      omega
    by_cases h1 : ∃ l, d = 1 :: l
    · obtain ⟨l, hdl1⟩ := h1
      --{A
      have HDL := Lib.hid hdl1
      have hlen : l.length = d.length - 1 := by rw [hdl1]; rfl
      have hdp : 1 ≤ d.length := by rw [hdl1]; simp
      have HLB : Hid (∀ x ∈ l, 0 ≤ x ∧ x ≤ 255) := Lib.hid (fun x hx => HD.out.byte x (by rw [hdl1]; exact List.mem_cons_of_mem _ hx))
      have HBY : Hid (∀ wx, Chg w wx nob → By wx (.slice (addS ad cd 1) (d.length - 1) (cd - 1)) l) := Lib.hid (fun wx hc => by
        have h := (HD.out.kept hc).drop (l := 1) (by omega)
        rwa [HDL.out, List.drop_succ_cons, List.drop_zero, ← HDL.out] at h)
      have hd1 : (1 : Int) ≤ (d.length : Int) := by omega
      have hd0 : (0 : Int) < (d.length : Int) := by omega
      obtain ⟨gd, od, cd', hvd, hnd, hcd⟩ := HD.out.at0 (by omega)
      cases hvd
      have hc0 := hcd 0 (by omega)
      rw [hdl1] at hc0
      simp only [List.getD_cons_zero, Nat.add_zero] at hc0
      replace hc0 := HC.out.cell hc0 id
      obtain ⟨DQ, hDQ⟩ : ∃ o, decQ 256 l = o := ⟨_, rfl⟩
      have HDQ := Lib.hid hDQ
      have HDD := Lib.hid (ddec_any w2 (.slice (addS (some ⟨gd, od, none⟩) cd 1) (d.length - 1) (cd - 1)) l (HBY.out w2 HC.out) (by omega) (HT.out.kept HC.out))
      rw [decQ_same (by decide) (by decide) l HLB.out, hDQ] at HDD
      clear hdl1 hcd hDQ
      go_wp2_with fail
      go_at_call 29
      refine HDD.out.mono ?_
      rintro e w3 ⟨hck, ⟨s, v, hdq, rfl, hcs⟩ | ⟨hdq, rfl⟩⟩
      · subst hdq
        obtain ⟨hsk, hsm⟩ := decQ_back (by decide) HLB.out HDQ.out
        have HAP := Lib.hid (apply_one HM1.out HLB.out HDQ.out)
        rw [← HDL.out] at HAP
        obtain ⟨sa, sn, rfl, _⟩ := hcs.form
        have HCS := Lib.hid (hcs.newer HC.out)
        replace HB := Lib.hid (HB.out.kept hck id)
        replace HX := Lib.hid (HX.out.kept hck id)
        replace HC := Lib.hid (HC.out.trans hck (fun _ _ h => h))
        clear hck hcs hsk hsm HDD hc0
        go_upto_region 5 with (fail)
        obtain ⟨w4, hw⟩ : ∃ W, w3.alloc (.cells (scL s (.slice sa s.l.length sn)) 24) = W := ⟨_, rfl⟩
        have hck : Chg w3 w4 nob := by rw [← hw]; exact (Chg.refl w3 nob).alloc _
        have HZ : Hid (Blk w4 w3.heap.size 24 (scL s (.slice sa s.l.length sn))) := Lib.hid (by rw [← hw]; exact Blk.new w3 _ _)
        rw [hw]
        clear hw
        obtain ⟨iz, hiz⟩ : ∃ k, w3.heap.size = k := ⟨_, rfl⟩
        rw [hiz] at HZ ⊢
        clear hiz
        replace HCS := Lib.hid (HCS.out.kept hck)
        replace HB := Lib.hid (HB.out.kept hck id)
        replace HX := Lib.hid (HX.out.kept hck id)
        replace HC := Lib.hid (HC.out.trans hck (fun _ _ h => h))
        clear hck
        have u0 := HB.out.cell 0
        have u1 := HB.out.cell 1
        have u2 := HB.out.cell 2
        have u3 := HB.out.cell 3
        have u4 := HB.out.cell 4
        have u5 := HB.out.cell 5
        have u6 := HB.out.cell 6
        simp only [List.getElem?_toArray, List.getElem?_cons_zero, List.getElem?_cons_succ] at u0 u1 u2 u3 u4 u5 u6
        have y0 := HZ.out.cell 0
        have y1 := HZ.out.cell 1
        have y2 := HZ.out.cell 2
        have y3 := HZ.out.cell 3
        have y4 := HZ.out.cell 4
        have y5 := HZ.out.cell 5
        have y6 := HZ.out.cell 6
        simp only [List.getElem?_toArray, List.getElem?_cons_zero, List.getElem?_cons_succ] at y0 y1 y2 y3 y4 y5 y6
        have g0 := HZ.out.free 0
        have g1 := HZ.out.free 1
        have g2 := HZ.out.free 2
        have g3 := HZ.out.free 3
        have g4 := HZ.out.free 4
        have g5 := HZ.out.free 5
        have g6 := HZ.out.free 6
        have x0 := HX.out.cell 0
        have x1 := HX.out.cell 1
        have x2 := HX.out.cell 2
        have x3 := HX.out.cell 3
        have x4 := HX.out.cell 4
        have x5 := HX.out.cell 5
        have x6 := HX.out.cell 6
        simp only [List.getElem?_toArray, List.getElem?_cons_zero, List.getElem?_cons_succ] at x0 x1 x2 x3 x4 x5 x6
        have f0 := HX.out.free 0
        have f1 := HX.out.free 1
        have f2 := HX.out.free 2
        have f3 := HX.out.free 3
        have f4 := HX.out.free 4
        have f5 := HX.out.free 5
        have f6 := HX.out.free 6
        by_cases hrc : a.r = s.r ∧ a.c = s.c
        · have hq1 : (s.r == a.r) = true := by simp; exact hrc.1.symm
          have hq2 : (s.c == a.c) = true := by simp; exact hrc.2.symm
          rw [if_pos hrc] at HAP
          clear hrc
          go_wp2
          obtain ⟨wz, hwz⟩ : ∃ W, ((((((World.setCell w4 ⟨ix, 0, none⟩ (.int .i64 0)).setCell ⟨ix, 1, none⟩ (.int .i64 0)).setCell ⟨ix, 2, none⟩ (.slice none 0 0)).setCell ⟨ix, 3, none⟩ (.int .i64 0)).setCell ⟨ix, 4, none⟩ (.int .i64 0)).setCell ⟨ix, 5, none⟩ (.bool false)).setCell ⟨ix, 6, none⟩ (.string ⟨#[]⟩) = W := ⟨_, rfl⟩
          have HXZ : Hid (Blk wz ix 24 #[.int .i64 0, .int .i64 0, .slice none 0 0, .int .i64 0, .int .i64 0, .bool false, .string ⟨#[]⟩]) := Lib.hid (by rw [← hwz]; exact ((((((HX.out.set 0 _).set 1 _).set 2 _).set 3 _).set 4 _).set 5 _).set 6 _)
          have hnew : w.heap.size ≤ ix := by have := HIX.out; omega
          have hcq : Chg w4 wz (fun k => k = ix) := by
            rw [← hwz]
            exact (((((((Chg.refl w4 (fun k => k = ix)).setCell (p := ⟨ix, 0, none⟩) (.inl rfl) _).setCell (p := ⟨ix, 1, none⟩) (.inl rfl) _).setCell (p := ⟨ix, 2, none⟩) (.inl rfl) _).setCell (p := ⟨ix, 3, none⟩) (.inl rfl) _).setCell (p := ⟨ix, 4, none⟩) (.inl rfl) _).setCell (p := ⟨ix, 5, none⟩) (.inl rfl) _).setCell (p := ⟨ix, 6, none⟩) (.inl rfl) _
          have HCZ : Hid (Chg w wz nob) := Lib.hid (HC.out.trans hcq (fun i hi e => by omega))
          rw [hwz]
          clear hwz
          have z0 := HXZ.out.cell 0
          have z1 := HXZ.out.cell 1
          have z2 := HXZ.out.cell 2
          have z3 := HXZ.out.cell 3
          have z4 := HXZ.out.cell 4
          have z5 := HXZ.out.cell 5
          have z6 := HXZ.out.cell 6
          simp only [List.getElem?_toArray, List.getElem?_cons_zero, List.getElem?_cons_succ] at z0 z1 z2 z3 z4 z5 z6
          refine bodyPost_ret (v := .tuple #[scV 0 0 (.slice none 0 0) 0 0 false ⟨#[]⟩, .int .i64 2]) (by simp [results, Tryz.results9, go_sem, z0, z1, z2, z3, z4, z5, z6]) rfl ?_
          exact ⟨HCZ.out, .none HM1.out HAP.out rfl⟩
        · rw [if_neg hrc] at HAP
          by_cases hr : a.r = s.r
          · have hq1 : (s.r == a.r) = true := by simp; exact hr.symm
            have hq2 : (s.c == a.c) = false := by simp; exact fun h => hrc ⟨hr, h.symm⟩
            clear hrc hr
            go_wp2
            obtain ⟨wz, hwz⟩ : ∃ W, ((((((World.setCell w4 ⟨ix, 0, none⟩ (.int .i64 (s).r)).setCell ⟨ix, 1, none⟩ (.int .i64 (s).c)).setCell ⟨ix, 2, none⟩ (.slice sa (s).l.length sn)).setCell ⟨ix, 3, none⟩ (.int .i64 (s).y)).setCell ⟨ix, 4, none⟩ (.int .i64 (s).x)).setCell ⟨ix, 5, none⟩ (.bool (s).h)).setCell ⟨ix, 6, none⟩ (.string (s).t) = W := ⟨_, rfl⟩
            have HXZ : Hid (Blk wz ix 24 #[.int .i64 (s).r, .int .i64 (s).c, .slice sa (s).l.length sn, .int .i64 (s).y, .int .i64 (s).x, .bool (s).h, .string (s).t]) := Lib.hid (by rw [← hwz]; exact ((((((HX.out.set 0 _).set 1 _).set 2 _).set 3 _).set 4 _).set 5 _).set 6 _)
            have hnew : w.heap.size ≤ ix := by have := HIX.out; omega
            have hcq : Chg w4 wz (fun k => k = ix) := by
              rw [← hwz]
              exact (((((((Chg.refl w4 (fun k => k = ix)).setCell (p := ⟨ix, 0, none⟩) (.inl rfl) _).setCell (p := ⟨ix, 1, none⟩) (.inl rfl) _).setCell (p := ⟨ix, 2, none⟩) (.inl rfl) _).setCell (p := ⟨ix, 3, none⟩) (.inl rfl) _).setCell (p := ⟨ix, 4, none⟩) (.inl rfl) _).setCell (p := ⟨ix, 5, none⟩) (.inl rfl) _).setCell (p := ⟨ix, 6, none⟩) (.inl rfl) _
            have HCZ : Hid (Chg w wz nob) := Lib.hid (HC.out.trans hcq (fun i hi e => by omega))
            rw [hwz]
            clear hwz
            have z0 := HXZ.out.cell 0
            have z1 := HXZ.out.cell 1
            have z2 := HXZ.out.cell 2
            have z3 := HXZ.out.cell 3
            have z4 := HXZ.out.cell 4
            have z5 := HXZ.out.cell 5
            have z6 := HXZ.out.cell 6
            simp only [List.getElem?_toArray, List.getElem?_cons_zero, List.getElem?_cons_succ] at z0 z1 z2 z3 z4 z5 z6
            refine bodyPost_ret (v := .tuple #[scS s (.slice sa (s).l.length sn), .int .i64 0]) (by simp [results, Tryz.results9, go_sem, z0, z1, z2, z3, z4, z5, z6]) rfl ?_
            exact ⟨HCZ.out, .some s sa sn HM1.out HAP.out rfl (HCS.out.ofChg hcq (fun k hk e => HCS.out.1.ne HX.out (by decide) (by rwa [← e])))⟩
          · have hq1 : (s.r == a.r) = false := by simp; exact fun h => hr h.symm
            clear hrc hr
            go_wp2
            obtain ⟨wz, hwz⟩ : ∃ W, ((((((World.setCell w4 ⟨ix, 0, none⟩ (.int .i64 (s).r)).setCell ⟨ix, 1, none⟩ (.int .i64 (s).c)).setCell ⟨ix, 2, none⟩ (.slice sa (s).l.length sn)).setCell ⟨ix, 3, none⟩ (.int .i64 (s).y)).setCell ⟨ix, 4, none⟩ (.int .i64 (s).x)).setCell ⟨ix, 5, none⟩ (.bool (s).h)).setCell ⟨ix, 6, none⟩ (.string (s).t) = W := ⟨_, rfl⟩
            have HXZ : Hid (Blk wz ix 24 #[.int .i64 (s).r, .int .i64 (s).c, .slice sa (s).l.length sn, .int .i64 (s).y, .int .i64 (s).x, .bool (s).h, .string (s).t]) := Lib.hid (by rw [← hwz]; exact ((((((HX.out.set 0 _).set 1 _).set 2 _).set 3 _).set 4 _).set 5 _).set 6 _)
            have hnew : w.heap.size ≤ ix := by have := HIX.out; omega
            have hcq : Chg w4 wz (fun k => k = ix) := by
              rw [← hwz]
              exact (((((((Chg.refl w4 (fun k => k = ix)).setCell (p := ⟨ix, 0, none⟩) (.inl rfl) _).setCell (p := ⟨ix, 1, none⟩) (.inl rfl) _).setCell (p := ⟨ix, 2, none⟩) (.inl rfl) _).setCell (p := ⟨ix, 3, none⟩) (.inl rfl) _).setCell (p := ⟨ix, 4, none⟩) (.inl rfl) _).setCell (p := ⟨ix, 5, none⟩) (.inl rfl) _).setCell (p := ⟨ix, 6, none⟩) (.inl rfl) _
            have HCZ : Hid (Chg w wz nob) := Lib.hid (HC.out.trans hcq (fun i hi e => by omega))
            rw [hwz]
            clear hwz
            have z0 := HXZ.out.cell 0
            have z1 := HXZ.out.cell 1
            have z2 := HXZ.out.cell 2
            have z3 := HXZ.out.cell 3
            have z4 := HXZ.out.cell 4
            have z5 := HXZ.out.cell 5
            have z6 := HXZ.out.cell 6
            simp only [List.getElem?_toArray, List.getElem?_cons_zero, List.getElem?_cons_succ] at z0 z1 z2 z3 z4 z5 z6
            refine bodyPost_ret (v := .tuple #[scS s (.slice sa (s).l.length sn), .int .i64 0]) (by simp [results, Tryz.results9, go_sem, z0, z1, z2, z3, z4, z5, z6]) rfl ?_
            exact ⟨HCZ.out, .some s sa sn HM1.out HAP.out rfl (HCS.out.ofChg hcq (fun k hk e => HCS.out.1.ne HX.out (by decide) (by rwa [← e])))⟩
      · subst hdq
        have HAP := Lib.hid (apply_one_none (a := a) HDQ.out)
        rw [← HDL.out] at HAP
        replace HX := Lib.hid (HX.out.kept hck id)
        replace HB := Lib.hid (HB.out.kept hck id)
        replace HC := Lib.hid (HC.out.trans hck (fun _ _ h => h))
        clear hck HDD hc0
        go_upto_region 5 with (fail)
        obtain ⟨w4, hw⟩ : ∃ W, w3.alloc (.cells zscr 24) = W := ⟨_, rfl⟩
        have hck : Chg w3 w4 nob := by rw [← hw]; exact (Chg.refl w3 nob).alloc _
        have HZ : Hid (Blk w4 w3.heap.size 24 zscr) := Lib.hid (by rw [← hw]; exact Blk.new w3 _ _)
        have hw' := hw
        simp only [zscr] at hw'
        rw [hw']
        clear hw hw'
        obtain ⟨iz, hiz⟩ : ∃ k, w3.heap.size = k := ⟨_, rfl⟩
        rw [hiz] at HZ ⊢
        clear hiz
        replace HX := Lib.hid (HX.out.kept hck id)
        replace HC := Lib.hid (HC.out.trans hck (fun _ _ h => h))
        clear hck HB
        have y0 := HZ.out.cell 0
        have y1 := HZ.out.cell 1
        have y2 := HZ.out.cell 2
        have y3 := HZ.out.cell 3
        have y4 := HZ.out.cell 4
        have y5 := HZ.out.cell 5
        have y6 := HZ.out.cell 6
        simp only [List.getElem?_toArray, List.getElem?_cons_zero, List.getElem?_cons_succ] at y0 y1 y2 y3 y4 y5 y6
        have g0 := HZ.out.free 0
        have g1 := HZ.out.free 1
        have g2 := HZ.out.free 2
        have g3 := HZ.out.free 3
        have g4 := HZ.out.free 4
        have g5 := HZ.out.free 5
        have g6 := HZ.out.free 6
        have x0 := HX.out.cell 0
        have x1 := HX.out.cell 1
        have x2 := HX.out.cell 2
        have x3 := HX.out.cell 3
        have x4 := HX.out.cell 4
        have x5 := HX.out.cell 5
        have x6 := HX.out.cell 6
        simp only [List.getElem?_toArray, List.getElem?_cons_zero, List.getElem?_cons_succ] at x0 x1 x2 x3 x4 x5 x6
        have f0 := HX.out.free 0
        have f1 := HX.out.free 1
        have f2 := HX.out.free 2
        have f3 := HX.out.free 3
        have f4 := HX.out.free 4
        have f5 := HX.out.free 5
        have f6 := HX.out.free 6
        go_wp2
        obtain ⟨wz, hwz⟩ : ∃ W, ((((((World.setCell w4 ⟨ix, 0, none⟩ (.int .i64 0)).setCell ⟨ix, 1, none⟩ (.int .i64 0)).setCell ⟨ix, 2, none⟩ (.slice none 0 0)).setCell ⟨ix, 3, none⟩ (.int .i64 0)).setCell ⟨ix, 4, none⟩ (.int .i64 0)).setCell ⟨ix, 5, none⟩ (.bool false)).setCell ⟨ix, 6, none⟩ (.string ⟨#[]⟩) = W := ⟨_, rfl⟩
        have HXZ : Hid (Blk wz ix 24 #[.int .i64 0, .int .i64 0, .slice none 0 0, .int .i64 0, .int .i64 0, .bool false, .string ⟨#[]⟩]) := Lib.hid (by rw [← hwz]; exact ((((((HX.out.set 0 _).set 1 _).set 2 _).set 3 _).set 4 _).set 5 _).set 6 _)
        have hnew : w.heap.size ≤ ix := by have := HIX.out; omega
        have hcq : Chg w4 wz (fun k => k = ix) := by
          rw [← hwz]
          exact (((((((Chg.refl w4 (fun k => k = ix)).setCell (p := ⟨ix, 0, none⟩) (.inl rfl) _).setCell (p := ⟨ix, 1, none⟩) (.inl rfl) _).setCell (p := ⟨ix, 2, none⟩) (.inl rfl) _).setCell (p := ⟨ix, 3, none⟩) (.inl rfl) _).setCell (p := ⟨ix, 4, none⟩) (.inl rfl) _).setCell (p := ⟨ix, 5, none⟩) (.inl rfl) _).setCell (p := ⟨ix, 6, none⟩) (.inl rfl) _
        have HCZ : Hid (Chg w wz nob) := Lib.hid (HC.out.trans hcq (fun i hi e => by omega))
        rw [hwz]
        clear hwz
        have z0 := HXZ.out.cell 0
        have z1 := HXZ.out.cell 1
        have z2 := HXZ.out.cell 2
        have z3 := HXZ.out.cell 3
        have z4 := HXZ.out.cell 4
        have z5 := HXZ.out.cell 5
        have z6 := HXZ.out.cell 6
        simp only [List.getElem?_toArray, List.getElem?_cons_zero, List.getElem?_cons_succ] at z0 z1 z2 z3 z4 z5 z6
        refine bodyPost_ret (v := .tuple #[scV 0 0 (.slice none 0 0) 0 0 false ⟨#[]⟩, .int .i64 2]) (by simp [results, Tryz.results9, go_sem, z0, z1, z2, z3, z4, z5, z6]) rfl ?_
        exact ⟨HCZ.out, .none HM1.out HAP.out rfl⟩
      --}A
    · have HAP := Lib.hid (applyD HM1.out HD.out.byte (fun l h => h1 ⟨l, h⟩))
      go_upto_region 3 with (fail)
      go_cut [29] (fun cv wx => cv = .bool false ∧ wx = w2)
      case first =>
        --{B
        by_cases hd0 : d = []
        · subst hd0
          go_wp2
          go_meet
          exact ⟨rfl, rfl⟩
        · obtain ⟨k, l, hkl⟩ : ∃ k l, d = k :: l := by
            cases d with
            | nil => exact absurd rfl hd0
            | cons k l => exact ⟨k, l, rfl⟩
          have hk1 : (k == 1) = false := by simp; exact fun h => h1 ⟨l, by rw [hkl, h]⟩
          have hdp : 1 ≤ d.length := by rw [hkl]; simp
          have hd0i : (0 : Int) < (d.length : Int) := by omega
          obtain ⟨gd, od, cd', hvd, hnd, hcd⟩ := HD.out.at0 (by omega)
          cases hvd
          have hc0 := hcd 0 (by omega)
          rw [hkl] at hc0
          simp only [List.getD_cons_zero, Nat.add_zero] at hc0
          replace hc0 := HC.out.cell hc0 id
          clear hkl hcd hd0 h1
          go_wp2
          go_meet
          exact ⟨rfl, rfl⟩
        --}B
      case rest =>
        obtain ⟨rfl, rfl⟩ := hcut
        rename World => w3
        clear h1
        obtain ⟨RQ, hRQ⟩ : ∃ r, partD a d = r := ⟨_, rfl⟩
        have HQ : Hid (AtG RQ 0 ((numM 0 (d.drop 0)).bind fun k => pd1 a k.2)) := Lib.hid (.inl ⟨rfl, by rw [← hRQ, List.drop_zero]; rfl⟩)
        rw [hRQ] at HAP
        clear hRQ
        go_upto_region 9 with (fail)
        obtain ⟨w4, hw⟩ : ∃ W, w3.alloc (.cells #[.slice ad d.length cd, .int .i64 0, .int .i64 0] 58) = W := ⟨_, rfl⟩
        have hck : Chg w3 w4 nob := by rw [← hw]; exact (Chg.refl w3 nob).alloc _
        have HR : Hid (RdD w4 w3.heap.size (.slice ad d.length cd) d 0 0) := Lib.hid ⟨by rw [← hw]; exact Blk.new w3 _ _, (HD.out.kept HC.out).kept hck, Nat.zero_le _, by omega⟩
        have HG : Hid (w.heap.size ≤ w3.heap.size) := Lib.hid HC.out.size
        rw [hw]
        clear hw
        obtain ⟨g, hg⟩ : ∃ i, w3.heap.size = i := ⟨_, rfl⟩
        rw [hg] at HR HG ⊢
        clear hg
        replace HB := Lib.hid (HB.out.kept hck id)
        replace HX := Lib.hid (HX.out.kept hck id)
        replace HC := Lib.hid (HC.out.trans hck (fun _ _ h => h))
        clear hck
        go_wp2_with fail
        go_at_call 30
        refine (dnum_any w4 g _ d 0 0 HR.out 0).mono ?_
        rintro e' w5 ⟨n0, q1, e1, he, hr⟩
        have hn0 : n0 = 0 := by have := hr.le; omega
        subst hn0
        simp only [Int.natCast_zero] at he
        subst he
        obtain ⟨hrd, hc, hs2, _⟩ := hr
        replace HQ : Hid (AtG RQ e1 (pd1 a (d.drop q1))) := Lib.hid (HQ.out.num hs2)
        replace HB := Lib.hid (HB.out.rdD HR.out (by decide) hc)
        replace HX := Lib.hid (HX.out.rdD HR.out (by decide) hc)
        replace HC : Hid (Chg w w5 nob) := Lib.hid (HC.out.trans hc (fun i hi e => by have := HG.out; omega))
        replace HR := Lib.hid hrd
        clear hrd hc hs2
        have u0 := HB.out.cell 0
        have u1 := HB.out.cell 1
        have u2 := HB.out.cell 2
        have u3 := HB.out.cell 3
        have u4 := HB.out.cell 4
        have u5 := HB.out.cell 5
        have u6 := HB.out.cell 6
        simp only [List.getElem?_toArray, List.getElem?_cons_zero, List.getElem?_cons_succ] at u0 u1 u2 u3 u4 u5 u6
        go_upto_region 10 with (fail)
        go_cut [10] (fun pv wx => ∃ (iy : Nat) (b' : Option Addr) (n' : Nat), pv = ptr iy ∧ Hid (Scb wx iy (scA a.r a.c (.slice b' a.l.length n') 0 0 false ⟨#[]⟩) (.slice b' a.l.length n') a.l) ∧ Hid (∀ k, blkOf (.slice b' a.l.length n') k → w.heap.size ≤ k) ∧ Hid (w.heap.size ≤ iy ∧ iy ≠ g ∧ iy ≠ ix ∧ iy ≠ ia) ∧ Hid (RdD wx g (.slice ad d.length cd) d q1 e1) ∧ Hid (Chg w wx nob) ∧ Hid (Blk wx ia 24 (scA a.r a.c (.slice aa a.l.length ca) a.y a.x a.h a.t)) ∧ Hid (Blk wx ix 24 zscr))
        case first =>
          --{C
          have HAN : Hid (aa = none → a.l.length = 0 ∧ ca = 0) := Lib.hid (fun h => by
            exfalso
            subst h
            have h2 := HA.out.none5
            have := hal.2
            rw [h2] at this
            simp at this)
          have HLC := Lib.hid (cellsV_len a.l)
          refine wp_lanes [1, 3, 6] [4, 7, 9, 10] [⟨[4, 7, 9, 10], [(4, [1, 3, 6]), (7, [1, 3]), (9, [1, 3, 6])], [0, 1, 2, 3, 5, 6, 4, 7, 8, 9, 10]⟩, ⟨[4, 9, 7, 10], [(4, [1, 3, 6]), (9, [1, 3, 6]), (7, [1, 3])], [0, 1, 2, 3, 5, 6, 4, 9, 7, 8, 10]⟩, ⟨[9, 4, 7, 10], [(9, [1, 3, 6]), (4, [1, 3, 6]), (7, [1, 3])], [0, 1, 2, 3, 5, 6, 9, 4, 7, 8, 10]⟩] rfl (by kernel_rfl) (fun _ _ _ _ _ h => h) ?_; simp only [wpAll, List.map_cons, List.map_nil, List.getElem?_toArray, List.getElem?_cons_zero, List.getElem?_cons_succ]; refine ⟨?_, ?_, ?_, trivial⟩
          all_goals (
            obtain ⟨w6, hw⟩ : ∃ W, World.drew w5 = W := ⟨_, rfl⟩
            have hck : Chg w5 w6 nob := by rw [← hw]; exact (Chg.refl w5 nob).drew
            rw [hw]
            (try replace HO := Lib.hid (HO.out.kept hck (fun _ _ => id)))
            (try replace HV := Lib.hid (HV.out.kept hck))
            (try replace HY := Lib.hid (HY.out.kept hck id))
            replace HR := Lib.hid (HR.out.kept hck)
            replace HB := Lib.hid (HB.out.kept hck id)
            replace HX := Lib.hid (HX.out.kept hck id)
            replace HC := Lib.hid (HC.out.trans hck (fun _ _ h => h))
            clear u0 u1 u2 u3 u4 u5 u6
            have u0 := HB.out.cell 0
            have u1 := HB.out.cell 1
            have u2 := HB.out.cell 2
            have u3 := HB.out.cell 3
            have u4 := HB.out.cell 4
            have u5 := HB.out.cell 5
            have u6 := HB.out.cell 6
            simp only [List.getElem?_toArray, List.getElem?_cons_zero, List.getElem?_cons_succ] at u0 u1 u2 u3 u4 u5 u6
            clear hw hck
            (repeat (first | (apply can0; (· rfl); (· rfl); (· (intro w'; first | (go_simp; with_reducible rfl) | (go_simp; done))); simp only [Act.put, List.setIfInBounds_toArray, List.set_cons_zero, List.set_cons_succ]) | (apply can1; (· rfl); (· rfl); (· (first | (go_simp; with_reducible rfl) | (go_simp; done))); simp only [Act.put, List.setIfInBounds_toArray, List.set_cons_zero, List.set_cons_succ]) | (apply canN; (· rfl); (· rfl); simp only [Act.put, List.setIfInBounds_toArray, List.set_cons_zero, List.set_cons_succ]) | (apply canN1; (· rfl); (· rfl); simp only [Act.put, List.setIfInBounds_toArray, List.set_cons_zero, List.set_cons_succ]) | (apply can0; (· rfl); (· (go_simp; done)); (· (intro w'; first | (go_simp; with_reducible rfl) | (go_simp; done))); simp only [Act.put, List.setIfInBounds_toArray, List.set_cons_zero, List.set_cons_succ]) | (apply can1; (· rfl); (· (go_simp; done)); (· (first | (go_simp; with_reducible rfl) | (go_simp; done))); simp only [Act.put, List.setIfInBounds_toArray, List.set_cons_zero, List.set_cons_succ]) | (apply canN; (· rfl); (· (go_simp; done)); simp only [Act.put, List.setIfInBounds_toArray, List.set_cons_zero, List.set_cons_succ]) | (apply canN1; (· rfl); (· (go_simp; done)); simp only [Act.put, List.setIfInBounds_toArray, List.set_cons_zero, List.set_cons_succ]))))
          · skip
            refine canW rfl [1, 3, 6] rfl (fun K hK => ?_)
            go_simp
            obtain ⟨w7, hw⟩ : ∃ W, World.alloc w6 (.cells #[] 47) = W := ⟨_, rfl⟩
            have hck : Chg w6 w7 nob := by rw [← hw]; exact (Chg.refl w6 nob).alloc _
            have HO0 : Hid (Own w7 47 5 (.slice (some ⟨World.heap w6 |>.size, 0, none⟩) 0 0) 0 []) := Lib.hid (by rw [← hw]; exact ⟨rfl, .inr ⟨_, 0, #[], rfl, Nat.zero_le _, Blk.new w6 _ _, Nat.le_refl _, Nat.zero_le _, rfl, rfl⟩⟩)
            have HOF : Hid (w.heap.size ≤ (World.heap w6).size) := Lib.hid HC.out.size
            rw [hw]
            clear hw
            (try replace HO := Lib.hid (HO.out.kept hck (fun _ _ => id)))
            (try replace HV := Lib.hid (HV.out.kept hck))
            (try replace HY := Lib.hid (HY.out.kept hck id))
            replace HR := Lib.hid (HR.out.kept hck)
            replace HB := Lib.hid (HB.out.kept hck id)
            replace HX := Lib.hid (HX.out.kept hck id)
            replace HC := Lib.hid (HC.out.trans hck (fun _ _ h => h))
            clear u0 u1 u2 u3 u4 u5 u6
            have u0 := HB.out.cell 0
            have u1 := HB.out.cell 1
            have u2 := HB.out.cell 2
            have u3 := HB.out.cell 3
            have u4 := HB.out.cell 4
            have u5 := HB.out.cell 5
            have u6 := HB.out.cell 6
            simp only [List.getElem?_toArray, List.getElem?_cons_zero, List.getElem?_cons_succ] at u0 u1 u2 u3 u4 u5 u6
            have HO := HO0
            clear HO0 hck
            obtain ⟨il, hil⟩ : ∃ k, (World.heap w6).size = k := ⟨_, rfl⟩
            rw [hil] at HO HOF ⊢
            clear hil
            (refine hK _ _ (fun u hu => by (simp only [List.mem_cons, List.not_mem_nil, or_false] at hu); (first | (subst hu; exact reRun_mk rfl (by first | (go_simp; with_reducible rfl) | (go_simp; done)) (holds_at rfl)) | ((repeat' (first | (rcases hu with rfl | hu) | (subst hu))) <;> exact reRun_mk rfl (by first | (go_simp; with_reducible rfl) | (go_simp; done)) (holds_at rfl)))) ?_; clear hK K; try simp only [Act.put, List.setIfInBounds_toArray, List.set_cons_zero, List.set_cons_succ])
            (repeat (first | (apply can0; (· rfl); (· rfl); (· (intro w'; first | (go_simp; with_reducible rfl) | (go_simp; done))); simp only [Act.put, List.setIfInBounds_toArray, List.set_cons_zero, List.set_cons_succ]) | (apply can1; (· rfl); (· rfl); (· (first | (go_simp; with_reducible rfl) | (go_simp; done))); simp only [Act.put, List.setIfInBounds_toArray, List.set_cons_zero, List.set_cons_succ]) | (apply canN; (· rfl); (· rfl); simp only [Act.put, List.setIfInBounds_toArray, List.set_cons_zero, List.set_cons_succ]) | (apply canN1; (· rfl); (· rfl); simp only [Act.put, List.setIfInBounds_toArray, List.set_cons_zero, List.set_cons_succ]) | (apply can0; (· rfl); (· (go_simp; done)); (· (intro w'; first | (go_simp; with_reducible rfl) | (go_simp; done))); simp only [Act.put, List.setIfInBounds_toArray, List.set_cons_zero, List.set_cons_succ]) | (apply can1; (· rfl); (· (go_simp; done)); (· (first | (go_simp; with_reducible rfl) | (go_simp; done))); simp only [Act.put, List.setIfInBounds_toArray, List.set_cons_zero, List.set_cons_succ]) | (apply canN; (· rfl); (· (go_simp; done)); simp only [Act.put, List.setIfInBounds_toArray, List.set_cons_zero, List.set_cons_succ]) | (apply canN1; (· rfl); (· (go_simp; done)); simp only [Act.put, List.setIfInBounds_toArray, List.set_cons_zero, List.set_cons_succ])))
            refine canW rfl [1, 3] rfl (fun K hK => ?_)
            rw [if_pos (by rfl)]
            have HNW := Lib.hid ((HA.out.kept HC.out (fun _ _ => id)).news5)
            refine wp_app _ _ 22 rfl 47 (.agg #[.int .i32 0, .int .i64 0, .int .i64 0, .int .i64 0, .int .i64 0]) 5 40 i_cell u_cells rfl (by decide) (.slice (some ⟨il, 0, none⟩) 0 0) 0 _ rfl HO.out aa a.l.length ca (cellsV a.l) rfl HAN.out HLC.out HNW.out (cellsV_one a.l) (by unfold maxLen; omega) (by omega) ?_
            intro v' w8 ho hch hf
            have HV0 : Hid (Cs w w8 v' a.l) := Lib.hid ⟨by simpa using ho, fun k hk => by
              rcases hf k hk with h | h
              · cases h; exact HOF.out
              · exact Nat.le_trans HC.out.size h⟩
            have hnb : ∀ k, k < w.heap.size → ¬ blkOf (.slice (some ⟨il, 0, none⟩) 0 0) k := fun k hk hb => by cases hb; have h1 : il < w.heap.size := hk; have := HOF.out; omega
            replace HB := Lib.hid (HB.out.kept hch (fun hk => HO.out.ne HB.out (by decide) hk))
            replace HX := Lib.hid (HX.out.kept hch (fun hk => HO.out.ne HX.out (by decide) hk))
            (try replace HY := Lib.hid (HY.out.kept hch (fun hk => HO.out.ne HY.out (by decide) hk)))
            replace HR : Hid (RdD w8 g (.slice ad d.length cd) d q1 e1) := Lib.hid ⟨HR.out.blk.kept hch (fun hk => HO.out.ne HR.out.blk (by decide) hk), HR.out.by_.keptN hch (fun hB k hk hb => hnb k (HD.out.lt hB hk) hb), HR.out.le, HR.out.big⟩
            replace HC : Hid (Chg w w8 nob) := Lib.hid (HC.out.trans hch (fun k hk hb => hnb k hk hb))
            clear ho hch hf hnb HO HNW u0 u1 u2 u3 u4 u5 u6
            have HV := HV0
            clear HV0
            obtain ⟨ba, bn, rfl, _⟩ := HV.out.form
            have u0 := HB.out.cell 0
            have u1 := HB.out.cell 1
            have u2 := HB.out.cell 2
            have u3 := HB.out.cell 3
            have u4 := HB.out.cell 4
            have u5 := HB.out.cell 5
            have u6 := HB.out.cell 6
            simp only [List.getElem?_toArray, List.getElem?_cons_zero, List.getElem?_cons_succ] at u0 u1 u2 u3 u4 u5 u6
            (refine hK _ _ (fun u hu => by (simp only [List.mem_cons, List.not_mem_nil, or_false] at hu); (first | (subst hu; exact reRun_mk rfl (by first | (go_simp; with_reducible rfl) | (go_simp; done)) (holds_at rfl)) | ((repeat' (first | (rcases hu with rfl | hu) | (subst hu))) <;> exact reRun_mk rfl (by first | (go_simp; with_reducible rfl) | (go_simp; done)) (holds_at rfl)))) ?_; clear hK K; try simp only [Act.put, List.setIfInBounds_toArray, List.set_cons_zero, List.set_cons_succ])
            (repeat (first | (apply can0; (· rfl); (· rfl); (· (intro w'; first | (go_simp; with_reducible rfl) | (go_simp; done))); simp only [Act.put, List.setIfInBounds_toArray, List.set_cons_zero, List.set_cons_succ]) | (apply can1; (· rfl); (· rfl); (· (first | (go_simp; with_reducible rfl) | (go_simp; done))); simp only [Act.put, List.setIfInBounds_toArray, List.set_cons_zero, List.set_cons_succ]) | (apply canN; (· rfl); (· rfl); simp only [Act.put, List.setIfInBounds_toArray, List.set_cons_zero, List.set_cons_succ]) | (apply canN1; (· rfl); (· rfl); simp only [Act.put, List.setIfInBounds_toArray, List.set_cons_zero, List.set_cons_succ]) | (apply can0; (· rfl); (· (go_simp; done)); (· (intro w'; first | (go_simp; with_reducible rfl) | (go_simp; done))); simp only [Act.put, List.setIfInBounds_toArray, List.set_cons_zero, List.set_cons_succ]) | (apply can1; (· rfl); (· (go_simp; done)); (· (first | (go_simp; with_reducible rfl) | (go_simp; done))); simp only [Act.put, List.setIfInBounds_toArray, List.set_cons_zero, List.set_cons_succ]) | (apply canN; (· rfl); (· (go_simp; done)); simp only [Act.put, List.setIfInBounds_toArray, List.set_cons_zero, List.set_cons_succ]) | (apply canN1; (· rfl); (· (go_simp; done)); simp only [Act.put, List.setIfInBounds_toArray, List.set_cons_zero, List.set_cons_succ])))
            refine canW rfl [1, 3, 6] rfl (fun K hK => ?_)
            go_simp
            obtain ⟨w9, hw⟩ : ∃ W, World.alloc w8 (.cells zscr 24) = W := ⟨_, rfl⟩
            have hck : Chg w8 w9 nob := by rw [← hw]; exact (Chg.refl w8 nob).alloc _
            have HY0 : Hid (Blk w9 (World.heap w8).size 24 zscr) := Lib.hid (by rw [← hw]; exact Blk.new w8 _ _)
            have HIY : Hid (w.heap.size ≤ (World.heap w8).size ∧ (World.heap w8).size ≠ g ∧ (World.heap w8).size ≠ ix ∧ (World.heap w8).size ≠ ia) := Lib.hid ⟨HC.out.size, fun e => by have := HR.out.blk.lt; omega, fun e => by have := HX.out.lt; omega, fun e => by have := HB.out.lt; omega⟩
            have hw' := hw
            simp only [zscr] at hw'
            rw [hw']
            clear hw hw'
            (try replace HO := Lib.hid (HO.out.kept hck (fun _ _ => id)))
            (try replace HV := Lib.hid (HV.out.kept hck))
            (try replace HY := Lib.hid (HY.out.kept hck id))
            replace HR := Lib.hid (HR.out.kept hck)
            replace HB := Lib.hid (HB.out.kept hck id)
            replace HX := Lib.hid (HX.out.kept hck id)
            replace HC := Lib.hid (HC.out.trans hck (fun _ _ h => h))
            clear u0 u1 u2 u3 u4 u5 u6
            have u0 := HB.out.cell 0
            have u1 := HB.out.cell 1
            have u2 := HB.out.cell 2
            have u3 := HB.out.cell 3
            have u4 := HB.out.cell 4
            have u5 := HB.out.cell 5
            have u6 := HB.out.cell 6
            simp only [List.getElem?_toArray, List.getElem?_cons_zero, List.getElem?_cons_succ] at u0 u1 u2 u3 u4 u5 u6
            have HY := HY0
            clear HY0 hck
            obtain ⟨iy, hiy⟩ : ∃ k, (World.heap w8).size = k := ⟨_, rfl⟩
            rw [hiy] at HY HIY ⊢
            clear hiy
            (refine hK _ _ (fun u hu => by (simp only [List.mem_cons, List.not_mem_nil, or_false] at hu); (first | (subst hu; exact reRun_mk rfl (by first | (go_simp; with_reducible rfl) | (go_simp; done)) (holds_at rfl)) | ((repeat' (first | (rcases hu with rfl | hu) | (subst hu))) <;> exact reRun_mk rfl (by first | (go_simp; with_reducible rfl) | (go_simp; done)) (holds_at rfl)))) ?_; clear hK K; try simp only [Act.put, List.setIfInBounds_toArray, List.set_cons_zero, List.set_cons_succ])
            (repeat (first | (apply can0; (· rfl); (· rfl); (· (intro w'; first | (go_simp; with_reducible rfl) | (go_simp; done))); simp only [Act.put, List.setIfInBounds_toArray, List.set_cons_zero, List.set_cons_succ]) | (apply can1; (· rfl); (· rfl); (· (first | (go_simp; with_reducible rfl) | (go_simp; done))); simp only [Act.put, List.setIfInBounds_toArray, List.set_cons_zero, List.set_cons_succ]) | (apply canN; (· rfl); (· rfl); simp only [Act.put, List.setIfInBounds_toArray, List.set_cons_zero, List.set_cons_succ]) | (apply canN1; (· rfl); (· rfl); simp only [Act.put, List.setIfInBounds_toArray, List.set_cons_zero, List.set_cons_succ]) | (apply can0; (· rfl); (· (go_simp; done)); (· (intro w'; first | (go_simp; with_reducible rfl) | (go_simp; done))); simp only [Act.put, List.setIfInBounds_toArray, List.set_cons_zero, List.set_cons_succ]) | (apply can1; (· rfl); (· (go_simp; done)); (· (first | (go_simp; with_reducible rfl) | (go_simp; done))); simp only [Act.put, List.setIfInBounds_toArray, List.set_cons_zero, List.set_cons_succ]) | (apply canN; (· rfl); (· (go_simp; done)); simp only [Act.put, List.setIfInBounds_toArray, List.set_cons_zero, List.set_cons_succ]) | (apply canN1; (· rfl); (· (go_simp; done)); simp only [Act.put, List.setIfInBounds_toArray, List.set_cons_zero, List.set_cons_succ])))
            have y0 := HY.out.cell 0
            have y1 := HY.out.cell 1
            have y2 := HY.out.cell 2
            have y3 := HY.out.cell 3
            have y4 := HY.out.cell 4
            have y5 := HY.out.cell 5
            have y6 := HY.out.cell 6
            simp only [List.getElem?_toArray, List.getElem?_cons_zero, List.getElem?_cons_succ] at y0 y1 y2 y3 y4 y5 y6
            have fy0 := HY.out.free 0
            have fy1 := HY.out.free 1
            have fy2 := HY.out.free 2
            have fy3 := HY.out.free 3
            have fy4 := HY.out.free 4
            have fy5 := HY.out.free 5
            have fy6 := HY.out.free 6
            refine canW rfl [] rfl (fun K hK => ?_)
            go_simp
            obtain ⟨wz, hwz⟩ : ∃ W, ((((((World.setCell w9 ⟨iy, 0, none⟩ (.int .i64 a.r)).setCell ⟨iy, 1, none⟩ (.int .i64 a.c)).setCell ⟨iy, 2, none⟩ (.slice ba a.l.length bn)).setCell ⟨iy, 3, none⟩ (.int .i64 0)).setCell ⟨iy, 4, none⟩ (.int .i64 0)).setCell ⟨iy, 5, none⟩ (.bool false)).setCell ⟨iy, 6, none⟩ (.string ⟨#[]⟩) = W := ⟨_, rfl⟩
            have hb7 : Blk wz iy 24 (scA a.r a.c (.slice ba a.l.length bn) 0 0 false ⟨#[]⟩) := by rw [← hwz]; exact ((((((HY.out.set 0 _).set 1 _).set 2 _).set 3 _).set 4 _).set 5 _).set 6 _
            have hcq : Chg w9 wz (fun k => k = iy) := by
              rw [← hwz]
              exact (((((((Chg.refl w9 (fun k => k = iy)).setCell (p := ⟨iy, 0, none⟩) (.inl rfl) _).setCell (p := ⟨iy, 1, none⟩) (.inl rfl) _).setCell (p := ⟨iy, 2, none⟩) (.inl rfl) _).setCell (p := ⟨iy, 3, none⟩) (.inl rfl) _).setCell (p := ⟨iy, 4, none⟩) (.inl rfl) _).setCell (p := ⟨iy, 5, none⟩) (.inl rfl) _).setCell (p := ⟨iy, 6, none⟩) (.inl rfl) _
            rw [hwz]
            have HFIN := Lib.hid (And.intro hb7 hcq)
            clear hwz hb7 hcq y0 y1 y2 y3 y4 y5 y6 fy0 fy1 fy2 fy3 fy4 fy5 fy6
            (refine hK _ _ (fun u hu => by cases hu) ?_; clear hK K; try simp only [Act.put, List.setIfInBounds_toArray, List.set_cons_zero, List.set_cons_succ])
            (repeat (first | (apply can0; (· rfl); (· rfl); (· (intro w'; first | (go_simp; with_reducible rfl) | (go_simp; done))); simp only [Act.put, List.setIfInBounds_toArray, List.set_cons_zero, List.set_cons_succ]) | (apply can1; (· rfl); (· rfl); (· (first | (go_simp; with_reducible rfl) | (go_simp; done))); simp only [Act.put, List.setIfInBounds_toArray, List.set_cons_zero, List.set_cons_succ]) | (apply canN; (· rfl); (· rfl); simp only [Act.put, List.setIfInBounds_toArray, List.set_cons_zero, List.set_cons_succ]) | (apply canN1; (· rfl); (· rfl); simp only [Act.put, List.setIfInBounds_toArray, List.set_cons_zero, List.set_cons_succ]) | (apply can0; (· rfl); (· (go_simp; done)); (· (intro w'; first | (go_simp; with_reducible rfl) | (go_simp; done))); simp only [Act.put, List.setIfInBounds_toArray, List.set_cons_zero, List.set_cons_succ]) | (apply can1; (· rfl); (· (go_simp; done)); (· (first | (go_simp; with_reducible rfl) | (go_simp; done))); simp only [Act.put, List.setIfInBounds_toArray, List.set_cons_zero, List.set_cons_succ]) | (apply canN; (· rfl); (· (go_simp; done)); simp only [Act.put, List.setIfInBounds_toArray, List.set_cons_zero, List.set_cons_succ]) | (apply canN1; (· rfl); (· (go_simp; done)); simp only [Act.put, List.setIfInBounds_toArray, List.set_cons_zero, List.set_cons_succ])))
            refine canE ?_
            go_wp2
            go_meet
            exact ⟨iy, ba, bn, rfl, Lib.hid ⟨HFIN.out.1, HV.out.1.kept HFIN.out.2 (fun k hk e => HV.out.1.ne HY.out (by decide) (by rwa [← e]))⟩, Lib.hid HV.out.2, HIY, Lib.hid (HR.out.other HD.out HIY.out.2.1 HIY.out.1 HFIN.out.2), Lib.hid (HC.out.trans HFIN.out.2 (fun k hk e => by have := HIY.out.1; omega)), Lib.hid (HB.out.kept HFIN.out.2 (fun e => HIY.out.2.2.2 e.symm)), Lib.hid (HX.out.kept HFIN.out.2 (fun e => HIY.out.2.2.1 e.symm))⟩
          · skip
            refine canW rfl [1, 3, 6] rfl (fun K hK => ?_)
            go_simp
            obtain ⟨w7, hw⟩ : ∃ W, World.alloc w6 (.cells #[] 47) = W := ⟨_, rfl⟩
            have hck : Chg w6 w7 nob := by rw [← hw]; exact (Chg.refl w6 nob).alloc _
            have HO0 : Hid (Own w7 47 5 (.slice (some ⟨World.heap w6 |>.size, 0, none⟩) 0 0) 0 []) := Lib.hid (by rw [← hw]; exact ⟨rfl, .inr ⟨_, 0, #[], rfl, Nat.zero_le _, Blk.new w6 _ _, Nat.le_refl _, Nat.zero_le _, rfl, rfl⟩⟩)
            have HOF : Hid (w.heap.size ≤ (World.heap w6).size) := Lib.hid HC.out.size
            rw [hw]
            clear hw
            (try replace HO := Lib.hid (HO.out.kept hck (fun _ _ => id)))
            (try replace HV := Lib.hid (HV.out.kept hck))
            (try replace HY := Lib.hid (HY.out.kept hck id))
            replace HR := Lib.hid (HR.out.kept hck)
            replace HB := Lib.hid (HB.out.kept hck id)
            replace HX := Lib.hid (HX.out.kept hck id)
            replace HC := Lib.hid (HC.out.trans hck (fun _ _ h => h))
            clear u0 u1 u2 u3 u4 u5 u6
            have u0 := HB.out.cell 0
            have u1 := HB.out.cell 1
            have u2 := HB.out.cell 2
            have u3 := HB.out.cell 3
            have u4 := HB.out.cell 4
            have u5 := HB.out.cell 5
            have u6 := HB.out.cell 6
            simp only [List.getElem?_toArray, List.getElem?_cons_zero, List.getElem?_cons_succ] at u0 u1 u2 u3 u4 u5 u6
            have HO := HO0
            clear HO0 hck
            obtain ⟨il, hil⟩ : ∃ k, (World.heap w6).size = k := ⟨_, rfl⟩
            rw [hil] at HO HOF ⊢
            clear hil
            (refine hK _ _ (fun u hu => by (simp only [List.mem_cons, List.not_mem_nil, or_false] at hu); (first | (subst hu; exact reRun_mk rfl (by first | (go_simp; with_reducible rfl) | (go_simp; done)) (holds_at rfl)) | ((repeat' (first | (rcases hu with rfl | hu) | (subst hu))) <;> exact reRun_mk rfl (by first | (go_simp; with_reducible rfl) | (go_simp; done)) (holds_at rfl)))) ?_; clear hK K; try simp only [Act.put, List.setIfInBounds_toArray, List.set_cons_zero, List.set_cons_succ])
            (repeat (first | (apply can0; (· rfl); (· rfl); (· (intro w'; first | (go_simp; with_reducible rfl) | (go_simp; done))); simp only [Act.put, List.setIfInBounds_toArray, List.set_cons_zero, List.set_cons_succ]) | (apply can1; (· rfl); (· rfl); (· (first | (go_simp; with_reducible rfl) | (go_simp; done))); simp only [Act.put, List.setIfInBounds_toArray, List.set_cons_zero, List.set_cons_succ]) | (apply canN; (· rfl); (· rfl); simp only [Act.put, List.setIfInBounds_toArray, List.set_cons_zero, List.set_cons_succ]) | (apply canN1; (· rfl); (· rfl); simp only [Act.put, List.setIfInBounds_toArray, List.set_cons_zero, List.set_cons_succ]) | (apply can0; (· rfl); (· (go_simp; done)); (· (intro w'; first | (go_simp; with_reducible rfl) | (go_simp; done))); simp only [Act.put, List.setIfInBounds_toArray, List.set_cons_zero, List.set_cons_succ]) | (apply can1; (· rfl); (· (go_simp; done)); (· (first | (go_simp; with_reducible rfl) | (go_simp; done))); simp only [Act.put, List.setIfInBounds_toArray, List.set_cons_zero, List.set_cons_succ]) | (apply canN; (· rfl); (· (go_simp; done)); simp only [Act.put, List.setIfInBounds_toArray, List.set_cons_zero, List.set_cons_succ]) | (apply canN1; (· rfl); (· (go_simp; done)); simp only [Act.put, List.setIfInBounds_toArray, List.set_cons_zero, List.set_cons_succ])))
            refine canW rfl [1, 3, 6] rfl (fun K hK => ?_)
            go_simp
            obtain ⟨w8, hw⟩ : ∃ W, World.alloc w7 (.cells zscr 24) = W := ⟨_, rfl⟩
            have hck : Chg w7 w8 nob := by rw [← hw]; exact (Chg.refl w7 nob).alloc _
            have HY0 : Hid (Blk w8 (World.heap w7).size 24 zscr) := Lib.hid (by rw [← hw]; exact Blk.new w7 _ _)
            have HIY : Hid (w.heap.size ≤ (World.heap w7).size ∧ (World.heap w7).size ≠ g ∧ (World.heap w7).size ≠ ix ∧ (World.heap w7).size ≠ ia) := Lib.hid ⟨HC.out.size, fun e => by have := HR.out.blk.lt; omega, fun e => by have := HX.out.lt; omega, fun e => by have := HB.out.lt; omega⟩
            have hw' := hw
            simp only [zscr] at hw'
            rw [hw']
            clear hw hw'
            (try replace HO := Lib.hid (HO.out.kept hck (fun _ _ => id)))
            (try replace HV := Lib.hid (HV.out.kept hck))
            (try replace HY := Lib.hid (HY.out.kept hck id))
            replace HR := Lib.hid (HR.out.kept hck)
            replace HB := Lib.hid (HB.out.kept hck id)
            replace HX := Lib.hid (HX.out.kept hck id)
            replace HC := Lib.hid (HC.out.trans hck (fun _ _ h => h))
            clear u0 u1 u2 u3 u4 u5 u6
            have u0 := HB.out.cell 0
            have u1 := HB.out.cell 1
            have u2 := HB.out.cell 2
            have u3 := HB.out.cell 3
            have u4 := HB.out.cell 4
            have u5 := HB.out.cell 5
            have u6 := HB.out.cell 6
            simp only [List.getElem?_toArray, List.getElem?_cons_zero, List.getElem?_cons_succ] at u0 u1 u2 u3 u4 u5 u6
            have HY := HY0
            clear HY0 hck
            obtain ⟨iy, hiy⟩ : ∃ k, (World.heap w7).size = k := ⟨_, rfl⟩
            rw [hiy] at HY HIY ⊢
            clear hiy
            (refine hK _ _ (fun u hu => by (simp only [List.mem_cons, List.not_mem_nil, or_false] at hu); (first | (subst hu; exact reRun_mk rfl (by first | (go_simp; with_reducible rfl) | (go_simp; done)) (holds_at rfl)) | ((repeat' (first | (rcases hu with rfl | hu) | (subst hu))) <;> exact reRun_mk rfl (by first | (go_simp; with_reducible rfl) | (go_simp; done)) (holds_at rfl)))) ?_; clear hK K; try simp only [Act.put, List.setIfInBounds_toArray, List.set_cons_zero, List.set_cons_succ])
            (repeat (first | (apply can0; (· rfl); (· rfl); (· (intro w'; first | (go_simp; with_reducible rfl) | (go_simp; done))); simp only [Act.put, List.setIfInBounds_toArray, List.set_cons_zero, List.set_cons_succ]) | (apply can1; (· rfl); (· rfl); (· (first | (go_simp; with_reducible rfl) | (go_simp; done))); simp only [Act.put, List.setIfInBounds_toArray, List.set_cons_zero, List.set_cons_succ]) | (apply canN; (· rfl); (· rfl); simp only [Act.put, List.setIfInBounds_toArray, List.set_cons_zero, List.set_cons_succ]) | (apply canN1; (· rfl); (· rfl); simp only [Act.put, List.setIfInBounds_toArray, List.set_cons_zero, List.set_cons_succ]) | (apply can0; (· rfl); (· (go_simp; done)); (· (intro w'; first | (go_simp; with_reducible rfl) | (go_simp; done))); simp only [Act.put, List.setIfInBounds_toArray, List.set_cons_zero, List.set_cons_succ]) | (apply can1; (· rfl); (· (go_simp; done)); (· (first | (go_simp; with_reducible rfl) | (go_simp; done))); simp only [Act.put, List.setIfInBounds_toArray, List.set_cons_zero, List.set_cons_succ]) | (apply canN; (· rfl); (· (go_simp; done)); simp only [Act.put, List.setIfInBounds_toArray, List.set_cons_zero, List.set_cons_succ]) | (apply canN1; (· rfl); (· (go_simp; done)); simp only [Act.put, List.setIfInBounds_toArray, List.set_cons_zero, List.set_cons_succ])))
            refine canW rfl [1, 3] rfl (fun K hK => ?_)
            rw [if_pos (by rfl)]
            have HNW := Lib.hid ((HA.out.kept HC.out (fun _ _ => id)).news5)
            refine wp_app _ _ 22 rfl 47 (.agg #[.int .i32 0, .int .i64 0, .int .i64 0, .int .i64 0, .int .i64 0]) 5 40 i_cell u_cells rfl (by decide) (.slice (some ⟨il, 0, none⟩) 0 0) 0 _ rfl HO.out aa a.l.length ca (cellsV a.l) rfl HAN.out HLC.out HNW.out (cellsV_one a.l) (by unfold maxLen; omega) (by omega) ?_
            intro v' w9 ho hch hf
            have HV0 : Hid (Cs w w9 v' a.l) := Lib.hid ⟨by simpa using ho, fun k hk => by
              rcases hf k hk with h | h
              · cases h; exact HOF.out
              · exact Nat.le_trans HC.out.size h⟩
            have hnb : ∀ k, k < w.heap.size → ¬ blkOf (.slice (some ⟨il, 0, none⟩) 0 0) k := fun k hk hb => by cases hb; have h1 : il < w.heap.size := hk; have := HOF.out; omega
            replace HB := Lib.hid (HB.out.kept hch (fun hk => HO.out.ne HB.out (by decide) hk))
            replace HX := Lib.hid (HX.out.kept hch (fun hk => HO.out.ne HX.out (by decide) hk))
            (try replace HY := Lib.hid (HY.out.kept hch (fun hk => HO.out.ne HY.out (by decide) hk)))
            replace HR : Hid (RdD w9 g (.slice ad d.length cd) d q1 e1) := Lib.hid ⟨HR.out.blk.kept hch (fun hk => HO.out.ne HR.out.blk (by decide) hk), HR.out.by_.keptN hch (fun hB k hk hb => hnb k (HD.out.lt hB hk) hb), HR.out.le, HR.out.big⟩
            replace HC : Hid (Chg w w9 nob) := Lib.hid (HC.out.trans hch (fun k hk hb => hnb k hk hb))
            clear ho hch hf hnb HO HNW u0 u1 u2 u3 u4 u5 u6
            have HV := HV0
            clear HV0
            obtain ⟨ba, bn, rfl, _⟩ := HV.out.form
            have u0 := HB.out.cell 0
            have u1 := HB.out.cell 1
            have u2 := HB.out.cell 2
            have u3 := HB.out.cell 3
            have u4 := HB.out.cell 4
            have u5 := HB.out.cell 5
            have u6 := HB.out.cell 6
            simp only [List.getElem?_toArray, List.getElem?_cons_zero, List.getElem?_cons_succ] at u0 u1 u2 u3 u4 u5 u6
            (refine hK _ _ (fun u hu => by (simp only [List.mem_cons, List.not_mem_nil, or_false] at hu); (first | (subst hu; exact reRun_mk rfl (by first | (go_simp; with_reducible rfl) | (go_simp; done)) (holds_at rfl)) | ((repeat' (first | (rcases hu with rfl | hu) | (subst hu))) <;> exact reRun_mk rfl (by first | (go_simp; with_reducible rfl) | (go_simp; done)) (holds_at rfl)))) ?_; clear hK K; try simp only [Act.put, List.setIfInBounds_toArray, List.set_cons_zero, List.set_cons_succ])
            (repeat (first | (apply can0; (· rfl); (· rfl); (· (intro w'; first | (go_simp; with_reducible rfl) | (go_simp; done))); simp only [Act.put, List.setIfInBounds_toArray, List.set_cons_zero, List.set_cons_succ]) | (apply can1; (· rfl); (· rfl); (· (first | (go_simp; with_reducible rfl) | (go_simp; done))); simp only [Act.put, List.setIfInBounds_toArray, List.set_cons_zero, List.set_cons_succ]) | (apply canN; (· rfl); (· rfl); simp only [Act.put, List.setIfInBounds_toArray, List.set_cons_zero, List.set_cons_succ]) | (apply canN1; (· rfl); (· rfl); simp only [Act.put, List.setIfInBounds_toArray, List.set_cons_zero, List.set_cons_succ]) | (apply can0; (· rfl); (· (go_simp; done)); (· (intro w'; first | (go_simp; with_reducible rfl) | (go_simp; done))); simp only [Act.put, List.setIfInBounds_toArray, List.set_cons_zero, List.set_cons_succ]) | (apply can1; (· rfl); (· (go_simp; done)); (· (first | (go_simp; with_reducible rfl) | (go_simp; done))); simp only [Act.put, List.setIfInBounds_toArray, List.set_cons_zero, List.set_cons_succ]) | (apply canN; (· rfl); (· (go_simp; done)); simp only [Act.put, List.setIfInBounds_toArray, List.set_cons_zero, List.set_cons_succ]) | (apply canN1; (· rfl); (· (go_simp; done)); simp only [Act.put, List.setIfInBounds_toArray, List.set_cons_zero, List.set_cons_succ])))
            have y0 := HY.out.cell 0
            have y1 := HY.out.cell 1
            have y2 := HY.out.cell 2
            have y3 := HY.out.cell 3
            have y4 := HY.out.cell 4
            have y5 := HY.out.cell 5
            have y6 := HY.out.cell 6
            simp only [List.getElem?_toArray, List.getElem?_cons_zero, List.getElem?_cons_succ] at y0 y1 y2 y3 y4 y5 y6
            have fy0 := HY.out.free 0
            have fy1 := HY.out.free 1
            have fy2 := HY.out.free 2
            have fy3 := HY.out.free 3
            have fy4 := HY.out.free 4
            have fy5 := HY.out.free 5
            have fy6 := HY.out.free 6
            refine canW rfl [] rfl (fun K hK => ?_)
            go_simp
            obtain ⟨wz, hwz⟩ : ∃ W, ((((((World.setCell w9 ⟨iy, 0, none⟩ (.int .i64 a.r)).setCell ⟨iy, 1, none⟩ (.int .i64 a.c)).setCell ⟨iy, 2, none⟩ (.slice ba a.l.length bn)).setCell ⟨iy, 3, none⟩ (.int .i64 0)).setCell ⟨iy, 4, none⟩ (.int .i64 0)).setCell ⟨iy, 5, none⟩ (.bool false)).setCell ⟨iy, 6, none⟩ (.string ⟨#[]⟩) = W := ⟨_, rfl⟩
            have hb7 : Blk wz iy 24 (scA a.r a.c (.slice ba a.l.length bn) 0 0 false ⟨#[]⟩) := by rw [← hwz]; exact ((((((HY.out.set 0 _).set 1 _).set 2 _).set 3 _).set 4 _).set 5 _).set 6 _
            have hcq : Chg w9 wz (fun k => k = iy) := by
              rw [← hwz]
              exact (((((((Chg.refl w9 (fun k => k = iy)).setCell (p := ⟨iy, 0, none⟩) (.inl rfl) _).setCell (p := ⟨iy, 1, none⟩) (.inl rfl) _).setCell (p := ⟨iy, 2, none⟩) (.inl rfl) _).setCell (p := ⟨iy, 3, none⟩) (.inl rfl) _).setCell (p := ⟨iy, 4, none⟩) (.inl rfl) _).setCell (p := ⟨iy, 5, none⟩) (.inl rfl) _).setCell (p := ⟨iy, 6, none⟩) (.inl rfl) _
            rw [hwz]
            have HFIN := Lib.hid (And.intro hb7 hcq)
            clear hwz hb7 hcq y0 y1 y2 y3 y4 y5 y6 fy0 fy1 fy2 fy3 fy4 fy5 fy6
            (refine hK _ _ (fun u hu => by cases hu) ?_; clear hK K; try simp only [Act.put, List.setIfInBounds_toArray, List.set_cons_zero, List.set_cons_succ])
            (repeat (first | (apply can0; (· rfl); (· rfl); (· (intro w'; first | (go_simp; with_reducible rfl) | (go_simp; done))); simp only [Act.put, List.setIfInBounds_toArray, List.set_cons_zero, List.set_cons_succ]) | (apply can1; (· rfl); (· rfl); (· (first | (go_simp; with_reducible rfl) | (go_simp; done))); simp only [Act.put, List.setIfInBounds_toArray, List.set_cons_zero, List.set_cons_succ]) | (apply canN; (· rfl); (· rfl); simp only [Act.put, List.setIfInBounds_toArray, List.set_cons_zero, List.set_cons_succ]) | (apply canN1; (· rfl); (· rfl); simp only [Act.put, List.setIfInBounds_toArray, List.set_cons_zero, List.set_cons_succ]) | (apply can0; (· rfl); (· (go_simp; done)); (· (intro w'; first | (go_simp; with_reducible rfl) | (go_simp; done))); simp only [Act.put, List.setIfInBounds_toArray, List.set_cons_zero, List.set_cons_succ]) | (apply can1; (· rfl); (· (go_simp; done)); (· (first | (go_simp; with_reducible rfl) | (go_simp; done))); simp only [Act.put, List.setIfInBounds_toArray, List.set_cons_zero, List.set_cons_succ]) | (apply canN; (· rfl); (· (go_simp; done)); simp only [Act.put, List.setIfInBounds_toArray, List.set_cons_zero, List.set_cons_succ]) | (apply canN1; (· rfl); (· (go_simp; done)); simp only [Act.put, List.setIfInBounds_toArray, List.set_cons_zero, List.set_cons_succ])))
            refine canE ?_
            go_wp2
            go_meet
            exact ⟨iy, ba, bn, rfl, Lib.hid ⟨HFIN.out.1, HV.out.1.kept HFIN.out.2 (fun k hk e => HV.out.1.ne HY.out (by decide) (by rwa [← e]))⟩, Lib.hid HV.out.2, HIY, Lib.hid (HR.out.other HD.out HIY.out.2.1 HIY.out.1 HFIN.out.2), Lib.hid (HC.out.trans HFIN.out.2 (fun k hk e => by have := HIY.out.1; omega)), Lib.hid (HB.out.kept HFIN.out.2 (fun e => HIY.out.2.2.2 e.symm)), Lib.hid (HX.out.kept HFIN.out.2 (fun e => HIY.out.2.2.1 e.symm))⟩
          · skip
            refine canW rfl [1, 3, 6] rfl (fun K hK => ?_)
            go_simp
            obtain ⟨w7, hw⟩ : ∃ W, World.alloc w6 (.cells zscr 24) = W := ⟨_, rfl⟩
            have hck : Chg w6 w7 nob := by rw [← hw]; exact (Chg.refl w6 nob).alloc _
            have HY0 : Hid (Blk w7 (World.heap w6).size 24 zscr) := Lib.hid (by rw [← hw]; exact Blk.new w6 _ _)
            have HIY : Hid (w.heap.size ≤ (World.heap w6).size ∧ (World.heap w6).size ≠ g ∧ (World.heap w6).size ≠ ix ∧ (World.heap w6).size ≠ ia) := Lib.hid ⟨HC.out.size, fun e => by have := HR.out.blk.lt; omega, fun e => by have := HX.out.lt; omega, fun e => by have := HB.out.lt; omega⟩
            have hw' := hw
            simp only [zscr] at hw'
            rw [hw']
            clear hw hw'
            (try replace HO := Lib.hid (HO.out.kept hck (fun _ _ => id)))
            (try replace HV := Lib.hid (HV.out.kept hck))
            (try replace HY := Lib.hid (HY.out.kept hck id))
            replace HR := Lib.hid (HR.out.kept hck)
            replace HB := Lib.hid (HB.out.kept hck id)
            replace HX := Lib.hid (HX.out.kept hck id)
            replace HC := Lib.hid (HC.out.trans hck (fun _ _ h => h))
            clear u0 u1 u2 u3 u4 u5 u6
            have u0 := HB.out.cell 0
            have u1 := HB.out.cell 1
            have u2 := HB.out.cell 2
            have u3 := HB.out.cell 3
            have u4 := HB.out.cell 4
            have u5 := HB.out.cell 5
            have u6 := HB.out.cell 6
            simp only [List.getElem?_toArray, List.getElem?_cons_zero, List.getElem?_cons_succ] at u0 u1 u2 u3 u4 u5 u6
            have HY := HY0
            clear HY0 hck
            obtain ⟨iy, hiy⟩ : ∃ k, (World.heap w6).size = k := ⟨_, rfl⟩
            rw [hiy] at HY HIY ⊢
            clear hiy
            (refine hK _ _ (fun u hu => by (simp only [List.mem_cons, List.not_mem_nil, or_false] at hu); (first | (subst hu; exact reRun_mk rfl (by first | (go_simp; with_reducible rfl) | (go_simp; done)) (holds_at rfl)) | ((repeat' (first | (rcases hu with rfl | hu) | (subst hu))) <;> exact reRun_mk rfl (by first | (go_simp; with_reducible rfl) | (go_simp; done)) (holds_at rfl)))) ?_; clear hK K; try simp only [Act.put, List.setIfInBounds_toArray, List.set_cons_zero, List.set_cons_succ])
            (repeat (first | (apply can0; (· rfl); (· rfl); (· (intro w'; first | (go_simp; with_reducible rfl) | (go_simp; done))); simp only [Act.put, List.setIfInBounds_toArray, List.set_cons_zero, List.set_cons_succ]) | (apply can1; (· rfl); (· rfl); (· (first | (go_simp; with_reducible rfl) | (go_simp; done))); simp only [Act.put, List.setIfInBounds_toArray, List.set_cons_zero, List.set_cons_succ]) | (apply canN; (· rfl); (· rfl); simp only [Act.put, List.setIfInBounds_toArray, List.set_cons_zero, List.set_cons_succ]) | (apply canN1; (· rfl); (· rfl); simp only [Act.put, List.setIfInBounds_toArray, List.set_cons_zero, List.set_cons_succ]) | (apply can0; (· rfl); (· (go_simp; done)); (· (intro w'; first | (go_simp; with_reducible rfl) | (go_simp; done))); simp only [Act.put, List.setIfInBounds_toArray, List.set_cons_zero, List.set_cons_succ]) | (apply can1; (· rfl); (· (go_simp; done)); (· (first | (go_simp; with_reducible rfl) | (go_simp; done))); simp only [Act.put, List.setIfInBounds_toArray, List.set_cons_zero, List.set_cons_succ]) | (apply canN; (· rfl); (· (go_simp; done)); simp only [Act.put, List.setIfInBounds_toArray, List.set_cons_zero, List.set_cons_succ]) | (apply canN1; (· rfl); (· (go_simp; done)); simp only [Act.put, List.setIfInBounds_toArray, List.set_cons_zero, List.set_cons_succ])))
            refine canW rfl [1, 3, 6] rfl (fun K hK => ?_)
            go_simp
            obtain ⟨w8, hw⟩ : ∃ W, World.alloc w7 (.cells #[] 47) = W := ⟨_, rfl⟩
            have hck : Chg w7 w8 nob := by rw [← hw]; exact (Chg.refl w7 nob).alloc _
            have HO0 : Hid (Own w8 47 5 (.slice (some ⟨World.heap w7 |>.size, 0, none⟩) 0 0) 0 []) := Lib.hid (by rw [← hw]; exact ⟨rfl, .inr ⟨_, 0, #[], rfl, Nat.zero_le _, Blk.new w7 _ _, Nat.le_refl _, Nat.zero_le _, rfl, rfl⟩⟩)
            have HOF : Hid (w.heap.size ≤ (World.heap w7).size) := Lib.hid HC.out.size
            rw [hw]
            clear hw
            (try replace HO := Lib.hid (HO.out.kept hck (fun _ _ => id)))
            (try replace HV := Lib.hid (HV.out.kept hck))
            (try replace HY := Lib.hid (HY.out.kept hck id))
            replace HR := Lib.hid (HR.out.kept hck)
            replace HB := Lib.hid (HB.out.kept hck id)
            replace HX := Lib.hid (HX.out.kept hck id)
            replace HC := Lib.hid (HC.out.trans hck (fun _ _ h => h))
            clear u0 u1 u2 u3 u4 u5 u6
            have u0 := HB.out.cell 0
            have u1 := HB.out.cell 1
            have u2 := HB.out.cell 2
            have u3 := HB.out.cell 3
            have u4 := HB.out.cell 4
            have u5 := HB.out.cell 5
            have u6 := HB.out.cell 6
            simp only [List.getElem?_toArray, List.getElem?_cons_zero, List.getElem?_cons_succ] at u0 u1 u2 u3 u4 u5 u6
            have HO := HO0
            clear HO0 hck
            obtain ⟨il, hil⟩ : ∃ k, (World.heap w7).size = k := ⟨_, rfl⟩
            rw [hil] at HO HOF ⊢
            clear hil
            (refine hK _ _ (fun u hu => by (simp only [List.mem_cons, List.not_mem_nil, or_false] at hu); (first | (subst hu; exact reRun_mk rfl (by first | (go_simp; with_reducible rfl) | (go_simp; done)) (holds_at rfl)) | ((repeat' (first | (rcases hu with rfl | hu) | (subst hu))) <;> exact reRun_mk rfl (by first | (go_simp; with_reducible rfl) | (go_simp; done)) (holds_at rfl)))) ?_; clear hK K; try simp only [Act.put, List.setIfInBounds_toArray, List.set_cons_zero, List.set_cons_succ])
            (repeat (first | (apply can0; (· rfl); (· rfl); (· (intro w'; first | (go_simp; with_reducible rfl) | (go_simp; done))); simp only [Act.put, List.setIfInBounds_toArray, List.set_cons_zero, List.set_cons_succ]) | (apply can1; (· rfl); (· rfl); (· (first | (go_simp; with_reducible rfl) | (go_simp; done))); simp only [Act.put, List.setIfInBounds_toArray, List.set_cons_zero, List.set_cons_succ]) | (apply canN; (· rfl); (· rfl); simp only [Act.put, List.setIfInBounds_toArray, List.set_cons_zero, List.set_cons_succ]) | (apply canN1; (· rfl); (· rfl); simp only [Act.put, List.setIfInBounds_toArray, List.set_cons_zero, List.set_cons_succ]) | (apply can0; (· rfl); (· (go_simp; done)); (· (intro w'; first | (go_simp; with_reducible rfl) | (go_simp; done))); simp only [Act.put, List.setIfInBounds_toArray, List.set_cons_zero, List.set_cons_succ]) | (apply can1; (· rfl); (· (go_simp; done)); (· (first | (go_simp; with_reducible rfl) | (go_simp; done))); simp only [Act.put, List.setIfInBounds_toArray, List.set_cons_zero, List.set_cons_succ]) | (apply canN; (· rfl); (· (go_simp; done)); simp only [Act.put, List.setIfInBounds_toArray, List.set_cons_zero, List.set_cons_succ]) | (apply canN1; (· rfl); (· (go_simp; done)); simp only [Act.put, List.setIfInBounds_toArray, List.set_cons_zero, List.set_cons_succ])))
            refine canW rfl [1, 3] rfl (fun K hK => ?_)
            rw [if_pos (by rfl)]
            have HNW := Lib.hid ((HA.out.kept HC.out (fun _ _ => id)).news5)
            refine wp_app _ _ 22 rfl 47 (.agg #[.int .i32 0, .int .i64 0, .int .i64 0, .int .i64 0, .int .i64 0]) 5 40 i_cell u_cells rfl (by decide) (.slice (some ⟨il, 0, none⟩) 0 0) 0 _ rfl HO.out aa a.l.length ca (cellsV a.l) rfl HAN.out HLC.out HNW.out (cellsV_one a.l) (by unfold maxLen; omega) (by omega) ?_
            intro v' w9 ho hch hf
            have HV0 : Hid (Cs w w9 v' a.l) := Lib.hid ⟨by simpa using ho, fun k hk => by
              rcases hf k hk with h | h
              · cases h; exact HOF.out
              · exact Nat.le_trans HC.out.size h⟩
            have hnb : ∀ k, k < w.heap.size → ¬ blkOf (.slice (some ⟨il, 0, none⟩) 0 0) k := fun k hk hb => by cases hb; have h1 : il < w.heap.size := hk; have := HOF.out; omega
            replace HB := Lib.hid (HB.out.kept hch (fun hk => HO.out.ne HB.out (by decide) hk))
            replace HX := Lib.hid (HX.out.kept hch (fun hk => HO.out.ne HX.out (by decide) hk))
            (try replace HY := Lib.hid (HY.out.kept hch (fun hk => HO.out.ne HY.out (by decide) hk)))
            replace HR : Hid (RdD w9 g (.slice ad d.length cd) d q1 e1) := Lib.hid ⟨HR.out.blk.kept hch (fun hk => HO.out.ne HR.out.blk (by decide) hk), HR.out.by_.keptN hch (fun hB k hk hb => hnb k (HD.out.lt hB hk) hb), HR.out.le, HR.out.big⟩
            replace HC : Hid (Chg w w9 nob) := Lib.hid (HC.out.trans hch (fun k hk hb => hnb k hk hb))
            clear ho hch hf hnb HO HNW u0 u1 u2 u3 u4 u5 u6
            have HV := HV0
            clear HV0
            obtain ⟨ba, bn, rfl, _⟩ := HV.out.form
            have u0 := HB.out.cell 0
            have u1 := HB.out.cell 1
            have u2 := HB.out.cell 2
            have u3 := HB.out.cell 3
            have u4 := HB.out.cell 4
            have u5 := HB.out.cell 5
            have u6 := HB.out.cell 6
            simp only [List.getElem?_toArray, List.getElem?_cons_zero, List.getElem?_cons_succ] at u0 u1 u2 u3 u4 u5 u6
            (refine hK _ _ (fun u hu => by (simp only [List.mem_cons, List.not_mem_nil, or_false] at hu); (first | (subst hu; exact reRun_mk rfl (by first | (go_simp; with_reducible rfl) | (go_simp; done)) (holds_at rfl)) | ((repeat' (first | (rcases hu with rfl | hu) | (subst hu))) <;> exact reRun_mk rfl (by first | (go_simp; with_reducible rfl) | (go_simp; done)) (holds_at rfl)))) ?_; clear hK K; try simp only [Act.put, List.setIfInBounds_toArray, List.set_cons_zero, List.set_cons_succ])
            (repeat (first | (apply can0; (· rfl); (· rfl); (· (intro w'; first | (go_simp; with_reducible rfl) | (go_simp; done))); simp only [Act.put, List.setIfInBounds_toArray, List.set_cons_zero, List.set_cons_succ]) | (apply can1; (· rfl); (· rfl); (· (first | (go_simp; with_reducible rfl) | (go_simp; done))); simp only [Act.put, List.setIfInBounds_toArray, List.set_cons_zero, List.set_cons_succ]) | (apply canN; (· rfl); (· rfl); simp only [Act.put, List.setIfInBounds_toArray, List.set_cons_zero, List.set_cons_succ]) | (apply canN1; (· rfl); (· rfl); simp only [Act.put, List.setIfInBounds_toArray, List.set_cons_zero, List.set_cons_succ]) | (apply can0; (· rfl); (· (go_simp; done)); (· (intro w'; first | (go_simp; with_reducible rfl) | (go_simp; done))); simp only [Act.put, List.setIfInBounds_toArray, List.set_cons_zero, List.set_cons_succ]) | (apply can1; (· rfl); (· (go_simp; done)); (· (first | (go_simp; with_reducible rfl) | (go_simp; done))); simp only [Act.put, List.setIfInBounds_toArray, List.set_cons_zero, List.set_cons_succ]) | (apply canN; (· rfl); (· (go_simp; done)); simp only [Act.put, List.setIfInBounds_toArray, List.set_cons_zero, List.set_cons_succ]) | (apply canN1; (· rfl); (· (go_simp; done)); simp only [Act.put, List.setIfInBounds_toArray, List.set_cons_zero, List.set_cons_succ])))
            have y0 := HY.out.cell 0
            have y1 := HY.out.cell 1
            have y2 := HY.out.cell 2
            have y3 := HY.out.cell 3
            have y4 := HY.out.cell 4
            have y5 := HY.out.cell 5
            have y6 := HY.out.cell 6
            simp only [List.getElem?_toArray, List.getElem?_cons_zero, List.getElem?_cons_succ] at y0 y1 y2 y3 y4 y5 y6
            have fy0 := HY.out.free 0
            have fy1 := HY.out.free 1
            have fy2 := HY.out.free 2
            have fy3 := HY.out.free 3
            have fy4 := HY.out.free 4
            have fy5 := HY.out.free 5
            have fy6 := HY.out.free 6
            refine canW rfl [] rfl (fun K hK => ?_)
            go_simp
            obtain ⟨wz, hwz⟩ : ∃ W, ((((((World.setCell w9 ⟨iy, 0, none⟩ (.int .i64 a.r)).setCell ⟨iy, 1, none⟩ (.int .i64 a.c)).setCell ⟨iy, 2, none⟩ (.slice ba a.l.length bn)).setCell ⟨iy, 3, none⟩ (.int .i64 0)).setCell ⟨iy, 4, none⟩ (.int .i64 0)).setCell ⟨iy, 5, none⟩ (.bool false)).setCell ⟨iy, 6, none⟩ (.string ⟨#[]⟩) = W := ⟨_, rfl⟩
            have hb7 : Blk wz iy 24 (scA a.r a.c (.slice ba a.l.length bn) 0 0 false ⟨#[]⟩) := by rw [← hwz]; exact ((((((HY.out.set 0 _).set 1 _).set 2 _).set 3 _).set 4 _).set 5 _).set 6 _
            have hcq : Chg w9 wz (fun k => k = iy) := by
              rw [← hwz]
              exact (((((((Chg.refl w9 (fun k => k = iy)).setCell (p := ⟨iy, 0, none⟩) (.inl rfl) _).setCell (p := ⟨iy, 1, none⟩) (.inl rfl) _).setCell (p := ⟨iy, 2, none⟩) (.inl rfl) _).setCell (p := ⟨iy, 3, none⟩) (.inl rfl) _).setCell (p := ⟨iy, 4, none⟩) (.inl rfl) _).setCell (p := ⟨iy, 5, none⟩) (.inl rfl) _).setCell (p := ⟨iy, 6, none⟩) (.inl rfl) _
            rw [hwz]
            have HFIN := Lib.hid (And.intro hb7 hcq)
            clear hwz hb7 hcq y0 y1 y2 y3 y4 y5 y6 fy0 fy1 fy2 fy3 fy4 fy5 fy6
            (refine hK _ _ (fun u hu => by cases hu) ?_; clear hK K; try simp only [Act.put, List.setIfInBounds_toArray, List.set_cons_zero, List.set_cons_succ])
            (repeat (first | (apply can0; (· rfl); (· rfl); (· (intro w'; first | (go_simp; with_reducible rfl) | (go_simp; done))); simp only [Act.put, List.setIfInBounds_toArray, List.set_cons_zero, List.set_cons_succ]) | (apply can1; (· rfl); (· rfl); (· (first | (go_simp; with_reducible rfl) | (go_simp; done))); simp only [Act.put, List.setIfInBounds_toArray, List.set_cons_zero, List.set_cons_succ]) | (apply canN; (· rfl); (· rfl); simp only [Act.put, List.setIfInBounds_toArray, List.set_cons_zero, List.set_cons_succ]) | (apply canN1; (· rfl); (· rfl); simp only [Act.put, List.setIfInBounds_toArray, List.set_cons_zero, List.set_cons_succ]) | (apply can0; (· rfl); (· (go_simp; done)); (· (intro w'; first | (go_simp; with_reducible rfl) | (go_simp; done))); simp only [Act.put, List.setIfInBounds_toArray, List.set_cons_zero, List.set_cons_succ]) | (apply can1; (· rfl); (· (go_simp; done)); (· (first | (go_simp; with_reducible rfl) | (go_simp; done))); simp only [Act.put, List.setIfInBounds_toArray, List.set_cons_zero, List.set_cons_succ]) | (apply canN; (· rfl); (· (go_simp; done)); simp only [Act.put, List.setIfInBounds_toArray, List.set_cons_zero, List.set_cons_succ]) | (apply canN1; (· rfl); (· (go_simp; done)); simp only [Act.put, List.setIfInBounds_toArray, List.set_cons_zero, List.set_cons_succ])))
            refine canE ?_
            go_wp2
            go_meet
            exact ⟨iy, ba, bn, rfl, Lib.hid ⟨HFIN.out.1, HV.out.1.kept HFIN.out.2 (fun k hk e => HV.out.1.ne HY.out (by decide) (by rwa [← e]))⟩, Lib.hid HV.out.2, HIY, Lib.hid (HR.out.other HD.out HIY.out.2.1 HIY.out.1 HFIN.out.2), Lib.hid (HC.out.trans HFIN.out.2 (fun k hk e => by have := HIY.out.1; omega)), Lib.hid (HB.out.kept HFIN.out.2 (fun e => HIY.out.2.2.2 e.symm)), Lib.hid (HX.out.kept HFIN.out.2 (fun e => HIY.out.2.2.1 e.symm))⟩
          --}C
        case rest =>
          obtain ⟨iy, ba, bn, rfl, HS, HSN, HIY, HR, HC, HB, HX⟩ := hcut
          rename World => w6
          clear u0 u1 u2 u3 u4 u5 u6
          go_wp2_with fail
          go_at_call 30
          refine (dnum_any w6 g _ d q1 e1 HR.out 60).mono ?_
          rintro e' w7 ⟨y, p1, e2, rfl, hr⟩
          have hley := hr.le
          obtain ⟨hrd, hc, hs3, _⟩ := hr
          replace HQ : Hid (AtG RQ e2 _) := Lib.hid (HQ.out.num hs3)
          replace HS := Lib.hid (HS.out.rdD HR.out hc)
          replace HX := Lib.hid (HX.out.rdD HR.out (by decide) hc)
          replace HB := Lib.hid (HB.out.rdD HR.out (by decide) hc)
          replace HC : Hid (Chg w w7 nob) := Lib.hid (HC.out.trans hc (fun i hi e => by have := HG.out; omega))
          replace HR := Lib.hid hrd
          clear hrd hc hs3
          go_wp2_with fail
          go_at_call 30
          refine (dnum_any w7 g _ d p1 e2 HR.out 200).mono ?_
          rintro e' w8 ⟨x, p2, e3, rfl, hr⟩
          have hlex := hr.le
          obtain ⟨hrd, hc, hs3, _⟩ := hr
          replace HQ : Hid (AtG RQ e3 _) := Lib.hid (HQ.out.num hs3)
          replace HS := Lib.hid (HS.out.rdD HR.out hc)
          replace HX := Lib.hid (HX.out.rdD HR.out (by decide) hc)
          replace HB := Lib.hid (HB.out.rdD HR.out (by decide) hc)
          replace HC : Hid (Chg w w8 nob) := Lib.hid (HC.out.trans hc (fun i hi e => by have := HG.out; omega))
          replace HR := Lib.hid hrd
          clear hrd hc hs3
          go_wp2_with fail
          go_at_call 30
          refine (dnum_any w8 g _ d p2 e3 HR.out 1).mono ?_
          rintro e' w9 ⟨h, p3, e4, rfl, hr⟩
          have hleh := hr.le
          obtain ⟨hrd, hc, hs3, _⟩ := hr
          replace HQ : Hid (AtG RQ e4 _) := Lib.hid (HQ.out.num hs3)
          replace HS := Lib.hid (HS.out.rdD HR.out hc)
          replace HX := Lib.hid (HX.out.rdD HR.out (by decide) hc)
          replace HB := Lib.hid (HB.out.rdD HR.out (by decide) hc)
          replace HC : Hid (Chg w w9 nob) := Lib.hid (HC.out.trans hc (fun i hi e => by have := HG.out; omega))
          replace HR := Lib.hid hrd
          clear hrd hc hs3
          have hwy : IntKind.i64.wrap (y : Int) = (y : Int) := by simp only [IntKind.wrap, IntKind.bits, IntKind.signed]; simp; omega
          have hwx : IntKind.i64.wrap (x : Int) = (x : Int) := by simp only [IntKind.wrap, IntKind.bits, IntKind.signed]; simp; omega
          obtain ⟨bh, hbh⟩ : ∃ b, decide (h = 1) = b := ⟨_, rfl⟩
          have hbh2 : ((h : Int) == 1) = bh := by rw [← hbh, Bool.eq_iff_iff]; simp; omega
          have u0 := HS.out.blk.cell 0
          have u1 := HS.out.blk.cell 1
          have u2 := HS.out.blk.cell 2
          have u3 := HS.out.blk.cell 3
          have u4 := HS.out.blk.cell 4
          have u5 := HS.out.blk.cell 5
          have u6 := HS.out.blk.cell 6
          simp only [List.getElem?_toArray, List.getElem?_cons_zero, List.getElem?_cons_succ] at u0 u1 u2 u3 u4 u5 u6
          have v3 := HS.out.blk.free 3
          have v4 := HS.out.blk.free 4
          have v5 := HS.out.blk.free 5
          have v6 := HS.out.blk.free 6
          go_upto_region 12 with (fail)
          obtain ⟨wA, hw⟩ : ∃ W, ((w9.setCell ⟨iy, 3, none⟩ (.int .i64 y)).setCell ⟨iy, 4, none⟩ (.int .i64 x)).setCell ⟨iy, 5, none⟩ (.bool bh) = W := ⟨_, rfl⟩
          have hck : Chg w9 wA (fun k => k = iy) := by rw [← hw]; exact (((Chg.refl w9 (fun k => k = iy)).setCell (p := ⟨iy, 3, none⟩) (.inl rfl) _).setCell (p := ⟨iy, 4, none⟩) (.inl rfl) _).setCell (p := ⟨iy, 5, none⟩) (.inl rfl) _
          have hb7 : Blk wA iy 24 (scA a.r a.c (.slice ba a.l.length bn) y x bh ⟨#[]⟩) := by rw [← hw]; exact ((HS.out.blk.set 3 _).set 4 _).set 5 _
          rw [hw]
          replace HR := Lib.hid (HR.out.other HD.out HIY.out.2.1 HIY.out.1 hck)
          replace HX := Lib.hid (HX.out.kept hck (fun e => HIY.out.2.2.1 e.symm))
          replace HB := Lib.hid (HB.out.kept hck (fun e => HIY.out.2.2.2 e.symm))
          replace HS := Lib.hid (show Scb _ iy _ _ a.l from ⟨hb7, HS.out.own.kept hck (fun k hk e => HS.out.own.ne HS.out.blk (by decide) (by rwa [← e]))⟩)
          replace HC := Lib.hid (HC.out.trans hck (fun i hi e => by have := HIY.out.1; omega))
          clear hck u0 u1 u2 u3 u4 u5 u6 v3 v4 v5 v6
          clear hw hb7
          go_wp2_with fail
          go_at_call 31
          refine (dtext_any wA g _ d p3 e4 HR.out 1000 (by decide)).mono ?_
          rintro e' wB ⟨t, p4, e5, rfl, hrd, hc, hs5⟩
          have htl : t.size ≤ 1000 := by
            rcases hs5 with ⟨_, _, h3⟩ | ⟨_, h2, _⟩
            · obtain ⟨_, h, _⟩ := textQ_back (fun x hx => hrd.by_.byte x (List.mem_of_mem_drop hx)) h3
              exact h
            · subst h2; exact Nat.zero_le _
          replace HQ : Hid (AtG RQ e5 _) := Lib.hid (HQ.out.text hs5)
          replace HS := Lib.hid (HS.out.rdD HR.out hc)
          replace HX := Lib.hid (HX.out.rdD HR.out (by decide) hc)
          replace HB := Lib.hid (HB.out.rdD HR.out (by decide) hc)
          replace HC : Hid (Chg w wB nob) := Lib.hid (HC.out.trans hc (fun i hi e => by have := HG.out; omega))
          replace HR := Lib.hid hrd
          clear hrd hc hs5
          have u0 := HS.out.blk.cell 0
          have u1 := HS.out.blk.cell 1
          have u2 := HS.out.blk.cell 2
          have u3 := HS.out.blk.cell 3
          have u4 := HS.out.blk.cell 4
          have u5 := HS.out.blk.cell 5
          have u6 := HS.out.blk.cell 6
          simp only [List.getElem?_toArray, List.getElem?_cons_zero, List.getElem?_cons_succ] at u0 u1 u2 u3 u4 u5 u6
          have v3 := HS.out.blk.free 3
          have v4 := HS.out.blk.free 4
          have v5 := HS.out.blk.free 5
          have v6 := HS.out.blk.free 6
          go_upto_region 13 with (fail)
          obtain ⟨wC, hw⟩ : ∃ W, wB.setCell ⟨iy, 6, none⟩ (.string t) = W := ⟨_, rfl⟩
          have hck : Chg wB wC (fun k => k = iy) := by rw [← hw]; exact (Chg.refl wB (fun k => k = iy)).setCell (p := ⟨iy, 6, none⟩) (.inl rfl) _
          have hb7 : Blk wC iy 24 (scA a.r a.c (.slice ba a.l.length bn) y x bh t) := by rw [← hw]; exact HS.out.blk.set 6 _
          rw [hw]
          replace HR := Lib.hid (HR.out.other HD.out HIY.out.2.1 HIY.out.1 hck)
          replace HX := Lib.hid (HX.out.kept hck (fun e => HIY.out.2.2.1 e.symm))
          replace HB := Lib.hid (HB.out.kept hck (fun e => HIY.out.2.2.2 e.symm))
          replace HS := Lib.hid (show Scb _ iy _ _ a.l from ⟨hb7, HS.out.own.kept hck (fun k hk e => HS.out.own.ne HS.out.blk (by decide) (by rwa [← e]))⟩)
          replace HC := Lib.hid (HC.out.trans hck (fun i hi e => by have := HIY.out.1; omega))
          clear hck u0 u1 u2 u3 u4 u5 u6 v3 v4 v5 v6
          clear hw hb7
          obtain ⟨LQ, hLQ⟩ : ∃ z, (if e5 = 0 then laysQ (d.drop p4).length 0 a.l (d.drop p4) else none) = z := ⟨_, rfl⟩
          have HLQ : Hid (AtG LQ e5 (laysQ (d.drop p4).length 0 a.l (d.drop p4))) := Lib.hid (by
            by_cases h : e5 = 0
            · rw [if_pos h] at hLQ; exact .inl ⟨h, hLQ.symm⟩
            · rw [if_neg h] at hLQ; exact .inr ⟨h, hLQ.symm⟩)
          have HRQ : Hid (RQ = LQ.bind fun z => some ⟨a.r, a.c, z, y, x, bh, t⟩) := Lib.hid (by
            rw [← hLQ]
            rcases HQ.out with ⟨h, h2⟩ | ⟨h, h2⟩
            · rw [if_pos h, h2, ← hbh]; rfl
            · rw [if_neg h, h2]; rfl)
          clear hLQ HQ hwy hwx hbh hbh2
          obtain ⟨n, hn⟩ : ∃ n, a.l.length = n := ⟨_, rfl⟩
          have HN := Lib.hid hn
          have HOV : Hid (∀ k, blkOf (.slice ba n bn) k → w.heap.size ≤ k) := Lib.hid (by have h := HSN.out; rwa [hn] at h)
          rw [hn] at HS HB hal
          go_wp2_with fail
          try rw [hn]
          clear hn HSN
          go_loopw [11] (fun av wr => ∃ (fu q at_ : Nat) (er : Int) (cs : List Ce), at_ ≤ n ∧ av = .int .i64 at_ ∧ Hid (cs.length = n) ∧ Hid ((d.drop q).length ≤ fu) ∧ Hid (AtG LQ er (laysQ fu at_ cs (d.drop q))) ∧ Hid (Scb wr iy (scA a.r a.c (.slice ba n bn) y x bh t) (.slice ba n bn) cs) ∧ Hid (RdD wr g (.slice ad d.length cd) d q er) ∧ Hid (Chg w wr nob) ∧ Hid (Blk wr ia 24 (scA a.r a.c (.slice aa n ca) a.y a.x a.h a.t)) ∧ Hid (Blk wr ix 24 zscr)) (fun _ wr => match wr.cell? ⟨g, 2, none⟩, wr.cell? ⟨g, 1, none⟩ with | some (.int _ e), some (.int _ q) => if e = 0 then 1 + (d.length - q.toNat) else 0 | _, _ => 0)
          case atStart => exact ⟨(d.drop p4).length, p4, 0, e5, a.l, Nat.zero_le _, rfl, HN, Lib.hid (Nat.le_refl _), HLQ, HS, HR, HC, HB, HX⟩
          case round =>
            clear HS HR HC HB HX HLQ
            obtain ⟨fu, q, at_, er, cs, hat, rfl, HL, HF, HLQ, HS, HR, HC, HB, HX⟩ := hrel
            rename World => wo
            have hqb := HR.out.le
            have q0 := HR.out.blk.cell 0
            have q1 := HR.out.blk.cell 1
            have q2 := HR.out.blk.cell 2
            simp only [List.getElem?_toArray, List.getElem?_cons_zero, List.getElem?_cons_succ] at q0 q1 q2
            by_cases he0 : er = 0
            · subst he0
              by_cases hleft : q < d.length
              · have hli : (0 : Int) < (d.length : Int) - (q : Int) := by omega
                --{D
                obtain ⟨fu, rfl⟩ : ∃ f, fu = f + 1 := ⟨fu - 1, by have := HF.out; simp only [List.length_drop] at this; omega⟩
                have HA2 : Hid (AtG LQ 0 ((numM (n - at_) (d.drop q)).bind fun g => ly1 n fu at_ cs g.1 g.2)) := Lib.hid (by
                  have h := HLQ.out
                  rwa [laysQ_step (fun h => by have := congrArg List.length h; simp at this; omega) HL.out] at h)
                have hsub : IntKind.i64.wrap ((n : Int) - (at_ : Int)) = ((n - at_ : Nat) : Int) := by simp only [IntKind.wrap, IntKind.bits, IntKind.signed]; simp; omega
                have hsub2 : IntKind.u64.wrap ((n - at_ : Nat) : Int) = ((n - at_ : Nat) : Int) := wraps_u64 _ (by omega) (by omega)
                go_wp2_with fail
                go_at_call 32
                refine (dleft_any wo g _ d q 0 HR.out).mono ?_
                rintro e' w1 ⟨rfl, hck⟩
                have hm1 := q1
                have hm2 := q2
                replace HS := Lib.hid (HS.out.kept hck)
                replace HR := Lib.hid (HR.out.kept hck)
                replace HC := Lib.hid (HC.out.trans hck (fun _ _ h => h))
                replace HB := Lib.hid (HB.out.kept hck id)
                replace HX := Lib.hid (HX.out.kept hck id)
                clear hck q0 q1 q2
                have ua := HB.out.cell 2
                simp only [List.getElem?_toArray, List.getElem?_cons_zero, List.getElem?_cons_succ] at ua
                go_wp2_with fail
                go_at_call 30
                refine (dnum_any w1 g _ d q 0 HR.out (n - at_)).mono ?_
                rintro e' w2 ⟨gg, qa, ea, rfl, hr⟩
                have hgg := hr.le
                have HQ1 : Hid (ea = 0 → q < qa) := Lib.hid (fun h => by
                  rcases hr.s with ⟨_, _, h3⟩ | ⟨h1, _⟩
                  · obtain ⟨h4, _⟩ := numM_back (fun x hx => HR.out.by_.byte x (List.mem_of_mem_drop hx)) h3
                    have h5 := congrArg List.length h4
                    have := varL_pos' gg
                    have := hr.r.le
                    simp only [List.length_append, List.length_drop] at h5
                    omega
                  · exact absurd h h1)
                replace HA2 : Hid (AtG LQ ea (ly1 n fu at_ cs gg (d.drop qa))) := Lib.hid (HA2.out.num hr.s)
                replace HS := Lib.hid (HS.out.rdD HR.out hr.c)
                replace HX := Lib.hid (HX.out.rdD HR.out (by decide) hr.c)
                replace HB := Lib.hid (HB.out.rdD HR.out (by decide) hr.c)
                replace HC := Lib.hid (show Chg w _ nob from HC.out.trans hr.c (fun i hi h => by have := HG.out; omega))
                replace HR := Lib.hid hr.r
                clear hr ua
                have ua := HB.out.cell 2
                simp only [List.getElem?_toArray, List.getElem?_cons_zero, List.getElem?_cons_succ] at ua
                have hwg : IntKind.i64.wrap (gg : Int) = (gg : Int) := by simp only [IntKind.wrap, IntKind.bits, IntKind.signed]; simp; omega
                obtain ⟨a1, ha1⟩ : ∃ k, at_ + gg = k := ⟨_, rfl⟩
                have hadd : IntKind.i64.wrap ((at_ : Int) + (gg : Int)) = (a1 : Int) := by simp only [IntKind.wrap, IntKind.bits, IntKind.signed]; simp; omega
                have ha1n : a1 ≤ n := by omega
                have HA1 := Lib.hid ha1
                clear ha1 hsub hsub2
                have hsub : IntKind.i64.wrap ((n : Int) - (a1 : Int)) = ((n - a1 : Nat) : Int) := by simp only [IntKind.wrap, IntKind.bits, IntKind.signed]; simp; omega
                have hsub2 : IntKind.u64.wrap ((n - a1 : Nat) : Int) = ((n - a1 : Nat) : Int) := wraps_u64 _ (by omega) (by omega)
                replace HA2 : Hid (AtG LQ ea ((numM (n - a1) (d.drop qa)).bind fun m => ly2 n fu at_ cs gg m.1 m.2)) := Lib.hid (by
                  have h := HA2.out
                  unfold ly1 at h
                  rwa [HA1.out] at h)
                go_wp2_with fail
                go_at_call 30
                refine (dnum_any w2 g _ d qa ea HR.out (n - a1)).mono ?_
                rintro e' w3 ⟨mm, qb, eb, rfl, hr⟩
                have hmm := hr.le
                have HQ2 : Hid (eb = 0 → q < qb) := Lib.hid (fun h => by
                  rcases hr.s with ⟨_, h0, h3⟩ | ⟨h1, _⟩
                  · obtain ⟨h4, _⟩ := numM_back (fun x hx => HR.out.by_.byte x (List.mem_of_mem_drop hx)) h3
                    have h5 := congrArg List.length h4
                    have := HQ1.out h0
                    have := hr.r.le
                    have := HR.out.le
                    simp only [List.length_append, List.length_drop] at h5
                    omega
                  · exact absurd h h1)
                replace HA2 : Hid (AtG LQ eb (ly2 n fu at_ cs gg mm (d.drop qb))) := Lib.hid (HA2.out.num hr.s)
                replace HS := Lib.hid (HS.out.rdD HR.out hr.c)
                replace HX := Lib.hid (HX.out.rdD HR.out (by decide) hr.c)
                replace HB := Lib.hid (HB.out.rdD HR.out (by decide) hr.c)
                replace HC := Lib.hid (show Chg w _ nob from HC.out.trans hr.c (fun i hi h => by have := HG.out; omega))
                replace HR := Lib.hid hr.r
                clear hr ua
                have ua := HB.out.cell 2
                simp only [List.getElem?_toArray, List.getElem?_cons_zero, List.getElem?_cons_succ] at ua
                clear HQ1 hsub hsub2
                have hwm : IntKind.i64.wrap (mm : Int) = (mm : Int) := by simp only [IntKind.wrap, IntKind.bits, IntKind.signed]; simp; omega
                go_wp2_with fail
                go_at_call 33
                refine (dcellsread_any w3 g _ d qb eb HR.out mm (by omega) (HT.out.kept HC.out)).mono ?_
                rintro e' w4 ⟨hck, qc, ec, hrd, ⟨rfl, h4, vz, z, rfl, hcz, hcf⟩ | ⟨rfl, h1⟩⟩
                · have HZ := Lib.hid hcz
                  have HCF := Lib.hid hcf
                  have HZL : Hid (z.length = mm) := Lib.hid (cellsF_back (fun x hx => HR.out.by_.byte x (List.mem_of_mem_drop hx)) (by omega) HCF.out).2.1
                  have HQ3 : Hid (qb ≤ qc) := Lib.hid (by
                    have h5 := congrArg List.length (cellsF_back (fun x hx => HR.out.by_.byte x (List.mem_of_mem_drop hx)) (by omega) HCF.out).1
                    have := HR.out.le
                    have := hrd.le
                    simp only [List.length_append, List.length_drop] at h5
                    omega)
                  have HW3 : Hid (w.heap.size ≤ w3.heap.size) := Lib.hid HC.out.size
                  replace HS := Lib.hid (HS.out.rdD HR.out hck)
                  replace HX := Lib.hid (HX.out.rdD HR.out (by decide) hck)
                  replace HB := Lib.hid (HB.out.rdD HR.out (by decide) hck)
                  replace HC : Hid (Chg w w4 nob) := Lib.hid (HC.out.trans hck (fun i hi h => by have := HG.out; omega))
                  replace HR := Lib.hid hrd
                  obtain ⟨az, cz, rfl, _⟩ := hcz.form
                  have hz0 : ec ≠ 0 → mm = 0 := fun h => h4.resolve_left h
                  clear hcz hcf hck hrd h4 ua
                  have hzl := HZL.out
                  have hfit : a1 + z.length ≤ n := by omega
                  have hnz : IntKind.i64.wrap ((a1 : Int) + (mm : Int)) = ((a1 + z.length : Nat) : Int) := by simp only [IntKind.wrap, IntKind.bits, IntKind.signed]; simp; omega
                  have hmz : a1 + z.length ≤ n := hfit
                  clear hzl
                  have HO : Hid (Own w4 47 5 (.slice ba n bn) n (cellsV cs)) := Lib.hid (by have h := HS.out.own; rwa [HL.out] at h)
                  have hsb := HS.out.blk.cell 2
                  simp only [List.getElem?_toArray, List.getElem?_cons_zero, List.getElem?_cons_succ] at hsb
                  go_wp2_with (refine wpList_copy5 rfl (.tmp 130) (.tmp 131) rfl ba n bn a1 cs HO.out HL.out ha1n (by rfl) az cz z (by rfl) HZ.out.1.rd hfit ?_)
                  intro w5 ho hc5
                  have HO5 := Lib.hid ho
                  have hl5 : (cs.take a1 ++ (z ++ cs.drop (a1 + z.length))).length = n := by
                    have := HL.out
                    simp only [List.length_append, List.length_take, List.length_drop]
                    omega
                  have HS5 : Hid (Scb w5 iy (scA a.r a.c (.slice ba n bn) y x bh t) (.slice ba n bn) (cs.take a1 ++ (z ++ cs.drop (a1 + z.length)))) := Lib.hid ⟨HS.out.blk.kept hc5 (fun hk => HO.out.ne HS.out.blk (by decide) hk), by rw [hl5]; exact ho⟩
                  have HR5' : Hid (RdD w5 g (.slice ad d.length cd) d qc ec) := Lib.hid ⟨HR.out.blk.kept hc5 (fun hk => HO.out.ne HR.out.blk (by decide) hk), HR.out.by_.keptN hc5 (fun hB k hk hb => by have h1 := HD.out.lt hB hk; have h2 := HOV.out k hb; omega), HR.out.le, HR.out.big⟩
                  have HC5 : Hid (Chg w w5 nob) := Lib.hid (HC.out.trans hc5 (fun i hi hk => by have := HOV.out i hk; omega))
                  have HB5 := Lib.hid (HB.out.kept hc5 (fun hk => HO.out.ne HB.out (by decide) hk))
                  have HX5 := Lib.hid (HX.out.kept hc5 (fun hk => HO.out.ne HX.out (by decide) hk))
                  have HL5 := Lib.hid hl5
                  have HLQ5 : Hid (AtG LQ ec (laysQ fu (a1 + z.length) (cs.take a1 ++ (z ++ cs.drop (a1 + z.length))) (d.drop qc))) := Lib.hid (by
                    rcases HA2.out with ⟨h, h2⟩ | ⟨h, h2⟩
                    · refine .inl ⟨h, ?_⟩
                      rw [h2, ly2, HCF.out, HA1.out, HZL.out]
                      rfl
                    · exact .inr ⟨h, h2⟩)
                  have hq5 := HR5'.out.blk.cell 1
                  have hq6 := HR5'.out.blk.cell 2
                  simp only [List.getElem?_toArray, List.getElem?_cons_zero, List.getElem?_cons_succ] at hq5 hq6
                  have hq3l := HR5'.out.le
                  have HFU : Hid ((d.drop qc).length ≤ fu ∨ ec ≠ 0) := Lib.hid (by
                    by_cases h : ec = 0
                    · left
                      have := HQ2.out h
                      have := HQ3.out
                      have := HF.out
                      simp only [List.length_drop] at this ⊢
                      omega
                    · exact .inr h)
                  have HME : Hid ((if ec = 0 then 1 + (d.length - qc) else 0) < 1 + (d.length - q)) := Lib.hid (by
                    split
                    · rename_i h
                      have := HQ2.out h
                      have := HQ3.out
                      omega
                    · omega)
                  clear ho hc5 hl5 hsb
                  go_wp2
                  go_roundw
                  case rel =>
                    rcases HFU.out with hf | hf
                    · exact ⟨fu, qc, a1 + z.length, ec, _, hfit, rfl, HL5, Lib.hid hf, HLQ5, HS5, HR5', HC5, HB5, HX5⟩
                    · exact ⟨(d.drop qc).length, qc, a1 + z.length, ec, _, hfit, rfl, HL5, Lib.hid (Nat.le_refl _), Lib.hid (.inr ⟨hf, by rcases HLQ5.out with ⟨h, _⟩ | ⟨_, h⟩; exact absurd h hf; exact h⟩), HS5, HR5', HC5, HB5, HX5⟩
                  case measure => simp only [hq5, hq6, hm1, hm2, Int.toNat_natCast, if_true]; exact HME.out
                · have HN2 : Hid (applyQ a d = none) := Lib.hid (by
                    rw [HAP.out, HRQ.out]
                    have : LQ = none := by
                      rcases HA2.out with ⟨h2, h3⟩ | ⟨_, h⟩
                      · rcases h1 with h | h
                        · exact absurd h2 h
                        · rw [h3, ly2, h]; rfl
                      · exact h
                    rw [this]; rfl)
                  replace HX := Lib.hid (HX.out.rdD HR.out (by decide) hck)
                  replace HC : Hid (Chg w w4 nob) := Lib.hid (HC.out.trans hck (fun i hi h => by have := HG.out; omega))
                  clear hck hrd h1 ua hm1 hm2
                  have x0 := HX.out.cell 0
                  have x1 := HX.out.cell 1
                  have x2 := HX.out.cell 2
                  have x3 := HX.out.cell 3
                  have x4 := HX.out.cell 4
                  have x5 := HX.out.cell 5
                  have x6 := HX.out.cell 6
                  simp only [List.getElem?_toArray, List.getElem?_cons_zero, List.getElem?_cons_succ] at x0 x1 x2 x3 x4 x5 x6
                  have f0 := HX.out.free 0
                  have f1 := HX.out.free 1
                  have f2 := HX.out.free 2
                  have f3 := HX.out.free 3
                  have f4 := HX.out.free 4
                  have f5 := HX.out.free 5
                  have f6 := HX.out.free 6
                  go_wp2
                  obtain ⟨wz, hwz⟩ : ∃ W, ((((((World.setCell w4 ⟨ix, 0, none⟩ (.int .i64 0)).setCell ⟨ix, 1, none⟩ (.int .i64 0)).setCell ⟨ix, 2, none⟩ (.slice none 0 0)).setCell ⟨ix, 3, none⟩ (.int .i64 0)).setCell ⟨ix, 4, none⟩ (.int .i64 0)).setCell ⟨ix, 5, none⟩ (.bool false)).setCell ⟨ix, 6, none⟩ (.string ⟨#[]⟩) = W := ⟨_, rfl⟩
                  have HXZ : Hid (Blk wz ix 24 #[.int .i64 0, .int .i64 0, .slice none 0 0, .int .i64 0, .int .i64 0, .bool false, .string ⟨#[]⟩]) := Lib.hid (by rw [← hwz]; exact ((((((HX.out.set 0 _).set 1 _).set 2 _).set 3 _).set 4 _).set 5 _).set 6 _)
                  have hnew : w.heap.size ≤ ix := by have := HIX.out; omega
                  have hcq : Chg w4 wz (fun k => k = ix) := by
                    rw [← hwz]
                    exact (((((((Chg.refl w4 (fun k => k = ix)).setCell (p := ⟨ix, 0, none⟩) (.inl rfl) _).setCell (p := ⟨ix, 1, none⟩) (.inl rfl) _).setCell (p := ⟨ix, 2, none⟩) (.inl rfl) _).setCell (p := ⟨ix, 3, none⟩) (.inl rfl) _).setCell (p := ⟨ix, 4, none⟩) (.inl rfl) _).setCell (p := ⟨ix, 5, none⟩) (.inl rfl) _).setCell (p := ⟨ix, 6, none⟩) (.inl rfl) _
                  have HCZ : Hid (Chg w wz nob) := Lib.hid (HC.out.trans hcq (fun i hi e => by omega))
                  rw [hwz]
                  clear hwz
                  have z0 := HXZ.out.cell 0
                  have z1 := HXZ.out.cell 1
                  have z2 := HXZ.out.cell 2
                  have z3 := HXZ.out.cell 3
                  have z4 := HXZ.out.cell 4
                  have z5 := HXZ.out.cell 5
                  have z6 := HXZ.out.cell 6
                  simp only [List.getElem?_toArray, List.getElem?_cons_zero, List.getElem?_cons_succ] at z0 z1 z2 z3 z4 z5 z6
                  refine bodyPost_ret (v := .tuple #[scV 0 0 (.slice none 0 0) 0 0 false ⟨#[]⟩, .int .i64 2]) (by simp [results, Tryz.results9, go_sem, z0, z1, z2, z3, z4, z5, z6]) rfl ?_
                  exact ⟨HCZ.out, .none HM1.out HN2.out rfl⟩
                --}D
              · have HDN : Hid (RQ = some ⟨a.r, a.c, cs, y, x, bh, t⟩) := Lib.hid (by
                  rw [HRQ.out]
                  rcases HLQ.out with ⟨_, h⟩ | ⟨h, _⟩
                  · rw [h, List.drop_eq_nil_of_le (by omega), laysQ_done]; rfl
                  · exact absurd rfl h)
                have hli : ¬ (0 : Int) < (d.length : Int) - (q : Int) := by omega
                go_wp2_with fail
                go_at_call 32
                refine (dleft_any wo g _ d q 0 HR.out).mono ?_
                rintro e' w1 ⟨rfl, hck⟩
                replace HS := Lib.hid (HS.out.kept hck)
                replace HR := Lib.hid (HR.out.kept hck)
                replace HC := Lib.hid (HC.out.trans hck (fun _ _ h => h))
                replace HB := Lib.hid (HB.out.kept hck id)
                replace HX := Lib.hid (HX.out.kept hck id)
                clear hck q0 q1 q2
                have HSO : Hid (Own w1 47 5 (.slice ba n bn) n (cellsV cs)) := Lib.hid (by have h := HS.out.own; rwa [HL.out] at h)
                obtain ⟨S, hS⟩ : ∃ S : Sc, S = ⟨a.r, a.c, cs, y, x, bh, t⟩ := ⟨_, rfl⟩
                have HSS := Lib.hid hS
                have HMK : Hid (Calls Tryz.prog 7 #[scS a (.slice aa n ca), scV a.r a.c (.slice ba n bn) y x bh t] w1 fun e w' => ∃ v, e = .returned (.tuple #[v, .int .i64 (okE S.may)]) ∧ Bx w1 w' v (if S.may = true then diffL a S else [])) := Lib.hid (by
                  have h := rmake_any w1 a S (.slice aa n ca) (.slice ba n bn) (by have h := HA.out.kept HC.out (fun _ _ => id); rw [HN.out] at h ⊢; exact h) (by rw [hS]; (show Rd _ 5 (.slice ba n bn) cs.length (cellsV cs)); rw [HL.out]; exact HSO.out.rd) hl (by rw [hS]; (show cs.length ≤ _); have := HL.out; omega) hs (by rw [hS]; (show t.size ≤ _); omega) (HT.out.kept HC.out)
                  rw [HM1.out, Bool.true_and] at h
                  rw [hS] at h ⊢
                  exact h)
                obtain ⟨ms, hms⟩ : ∃ m, S.may = m := ⟨_, rfl⟩
                have HMS := Lib.hid hms
                rw [hms] at HMK
                clear hms hS
                have u0 := HB.out.cell 0
                have u1 := HB.out.cell 1
                have u2 := HB.out.cell 2
                have u3 := HB.out.cell 3
                have u4 := HB.out.cell 4
                have u5 := HB.out.cell 5
                have u6 := HB.out.cell 6
                simp only [List.getElem?_toArray, List.getElem?_cons_zero, List.getElem?_cons_succ] at u0 u1 u2 u3 u4 u5 u6
                have c0 := HS.out.blk.cell 0
                have c1 := HS.out.blk.cell 1
                have c2 := HS.out.blk.cell 2
                have c3 := HS.out.blk.cell 3
                have c4 := HS.out.blk.cell 4
                have c5 := HS.out.blk.cell 5
                have c6 := HS.out.blk.cell 6
                simp only [List.getElem?_toArray, List.getElem?_cons_zero, List.getElem?_cons_succ] at c0 c1 c2 c3 c4 c5 c6
                go_wp2_with fail
                go_at_call 7
                refine HMK.out.mono ?_
                rintro e wM ⟨vm, rfl, hbm⟩
                have hck := hbm.2.1
                replace HS := Lib.hid (HS.out.kept hck)
                replace HSO := Lib.hid (HSO.out.kept hck (fun _ _ => id))
                replace HR := Lib.hid (HR.out.kept hck)
                replace HX := Lib.hid (HX.out.kept hck id)
                replace HC := Lib.hid (HC.out.trans hck (fun _ _ h => h))
                have HBM := Lib.hid hbm
                obtain ⟨am, nm, hvm, -⟩ := hbm.1.form
                have HVM := Lib.hid hvm
                clear hvm hck hbm u0 u1 u2 u3 u4 u5 u6 c0 c1 c2 c3 c4 c5 c6 HMK
                have q0 := HR.out.blk.cell 0
                have q1 := HR.out.blk.cell 1
                have q2 := HR.out.blk.cell 2
                simp only [List.getElem?_toArray, List.getElem?_cons_zero, List.getElem?_cons_succ] at q0 q1 q2
                cases ms with
                | false =>
                  --{E
                  have HN2 : Hid (applyQ a d = none) := Lib.hid (by
                    rw [HAP.out, HDN.out, Option.bind_some, if_neg]
                    rintro ⟨h, _⟩
                    rw [← HSS.out, HMS.out] at h
                    cases h)
                  clear HBM HVM
                  simp only [okE]
                  have x0 := HX.out.cell 0
                  have x1 := HX.out.cell 1
                  have x2 := HX.out.cell 2
                  have x3 := HX.out.cell 3
                  have x4 := HX.out.cell 4
                  have x5 := HX.out.cell 5
                  have x6 := HX.out.cell 6
                  simp only [List.getElem?_toArray, List.getElem?_cons_zero, List.getElem?_cons_succ] at x0 x1 x2 x3 x4 x5 x6
                  have f0 := HX.out.free 0
                  have f1 := HX.out.free 1
                  have f2 := HX.out.free 2
                  have f3 := HX.out.free 3
                  have f4 := HX.out.free 4
                  have f5 := HX.out.free 5
                  have f6 := HX.out.free 6
                  rename_i KZ AZ KA IH KB KC
                  have IHH := Lib.hid IH
                  clear AZ IH
                  go_wp2
                  refine IHH.out _ _ ?_
                  clear IHH
                  go_upto_region 24 with (fail)
                  rename_i K1 A1 K2 A2
                  have HA1 := Lib.hid A1
                  have HA2 := Lib.hid A2
                  clear A1 A2 hdl hdc hl hs q0 q1 q2
                  iterate 9 go_step
                  obtain ⟨wz, hwz⟩ : ∃ W, ((((((World.setCell wM ⟨ix, 0, none⟩ (.int .i64 0)).setCell ⟨ix, 1, none⟩ (.int .i64 0)).setCell ⟨ix, 2, none⟩ (.slice none 0 0)).setCell ⟨ix, 3, none⟩ (.int .i64 0)).setCell ⟨ix, 4, none⟩ (.int .i64 0)).setCell ⟨ix, 5, none⟩ (.bool false)).setCell ⟨ix, 6, none⟩ (.string ⟨#[]⟩) = W := ⟨_, rfl⟩
                  have HXZ : Hid (Blk wz ix 24 #[.int .i64 0, .int .i64 0, .slice none 0 0, .int .i64 0, .int .i64 0, .bool false, .string ⟨#[]⟩]) := Lib.hid (by rw [← hwz]; exact ((((((HX.out.set 0 _).set 1 _).set 2 _).set 3 _).set 4 _).set 5 _).set 6 _)
                  have hnew : w.heap.size ≤ ix := by have := HIX.out; omega
                  have hcq : Chg wM wz (fun k => k = ix) := by
                    rw [← hwz]
                    exact (((((((Chg.refl wM (fun k => k = ix)).setCell (p := ⟨ix, 0, none⟩) (.inl rfl) _).setCell (p := ⟨ix, 1, none⟩) (.inl rfl) _).setCell (p := ⟨ix, 2, none⟩) (.inl rfl) _).setCell (p := ⟨ix, 3, none⟩) (.inl rfl) _).setCell (p := ⟨ix, 4, none⟩) (.inl rfl) _).setCell (p := ⟨ix, 5, none⟩) (.inl rfl) _).setCell (p := ⟨ix, 6, none⟩) (.inl rfl) _
                  have HCZ : Hid (Chg w wz nob) := Lib.hid (HC.out.trans hcq (fun i hi e => by omega))
                  rw [hwz]
                  clear hwz
                  have z0 := HXZ.out.cell 0
                  have z1 := HXZ.out.cell 1
                  have z2 := HXZ.out.cell 2
                  have z3 := HXZ.out.cell 3
                  have z4 := HXZ.out.cell 4
                  have z5 := HXZ.out.cell 5
                  have z6 := HXZ.out.cell 6
                  simp only [List.getElem?_toArray, List.getElem?_cons_zero, List.getElem?_cons_succ] at z0 z1 z2 z3 z4 z5 z6
                  clear f0 f1 f2 f3 f4 f5 f6 x0 x1 x2 x3 x4 x5 x6
                  iterate 2 go_step
                  go_step
                  refine HA2.out _ _ ?_
                  clear HA1 HA2
                  iterate 2 go_step
                  refine bodyPost_ret (v := .tuple #[scV 0 0 (.slice none 0 0) 0 0 false ⟨#[]⟩, .int .i64 2]) (by simp [results, Tryz.results9, go_sem, z0, z1, z2, z3, z4, z5, z6]) rfl ?_
                  exact ⟨HCZ.out, .none HM1.out HN2.out rfl⟩
                  --}E
                | true =>
                  have hvm := HVM.out
                  simp only [if_true] at HBM hvm
                  clear HVM
                  subst hvm
                  obtain ⟨D, hD⟩ : ∃ D, diffL a S = D := ⟨_, rfl⟩
                  have HDB : Hid (∀ x ∈ D, 0 ≤ x ∧ x ≤ 255) := Lib.hid (by rw [← hD]; exact diffL_b a S)
                  have HDD := Lib.hid hD
                  rw [hD] at HBM
                  have HBY := Lib.hid (By.ofBx HBM.out HDB.out)
                  rw [hD]
                  clear HBM hD
                  simp only [okE, if_true]
                  by_cases hdd : D = d
                  · skip
                    --{F
                    have HN2 : Hid (applyQ a d = some ⟨a.r, a.c, cs, y, x, bh, t⟩) := Lib.hid (by
                      rw [HAP.out, HDN.out, Option.bind_some, if_pos]
                      rw [← HSS.out]
                      exact ⟨HMS.out, HDD.out.trans hdd⟩)
                    have HDE : Hid (decide (D = d) = true) := Lib.hid (decide_eq_true hdd)
                    clear hdd
                    rename_i KZ AZ KA IH KB KC
                    have IHH := Lib.hid IH
                    clear AZ IH
                    go_wp2
                    refine IHH.out _ _ ?_
                    clear IHH
                    go_wp2_with fail
                    go_at_call 10
                    refine (bytes_by HBY.out (HD.out.kept HC.out)).mono ?_
                    rw [HDE.out]
                    rintro e' xx ⟨rfl, rfl⟩
                    have c0 := HS.out.blk.cell 0
                    have c1 := HS.out.blk.cell 1
                    have c2 := HS.out.blk.cell 2
                    have c3 := HS.out.blk.cell 3
                    have c4 := HS.out.blk.cell 4
                    have c5 := HS.out.blk.cell 5
                    have c6 := HS.out.blk.cell 6
                    simp only [List.getElem?_toArray, List.getElem?_cons_zero, List.getElem?_cons_succ] at c0 c1 c2 c3 c4 c5 c6
                    have xx0 := HX.out.cell 0
                    have xx1 := HX.out.cell 1
                    have xx2 := HX.out.cell 2
                    have xx3 := HX.out.cell 3
                    have xx4 := HX.out.cell 4
                    have xx5 := HX.out.cell 5
                    have xx6 := HX.out.cell 6
                    simp only [List.getElem?_toArray, List.getElem?_cons_zero, List.getElem?_cons_succ] at xx0 xx1 xx2 xx3 xx4 xx5 xx6
                    have f0 := HX.out.free 0
                    have f1 := HX.out.free 1
                    have f2 := HX.out.free 2
                    have f3 := HX.out.free 3
                    have f4 := HX.out.free 4
                    have f5 := HX.out.free 5
                    have f6 := HX.out.free 6
                    go_upto_region 25 with (fail)
                    rename_i K2 A2
                    have HA2 := Lib.hid A2
                    clear A2 hdl hdc hl hs q0 q1 q2
                    iterate 9 go_step
                    obtain ⟨wz, hwz⟩ : ∃ W, ((((((World.setCell wM ⟨ix, 0, none⟩ (.int .i64 a.r)).setCell ⟨ix, 1, none⟩ (.int .i64 a.c)).setCell ⟨ix, 2, none⟩ (.slice ba n bn)).setCell ⟨ix, 3, none⟩ (.int .i64 y)).setCell ⟨ix, 4, none⟩ (.int .i64 x)).setCell ⟨ix, 5, none⟩ (.bool bh)).setCell ⟨ix, 6, none⟩ (.string t) = W := ⟨_, rfl⟩
                    have HXZ : Hid (Blk wz ix 24 #[.int .i64 a.r, .int .i64 a.c, .slice ba n bn, .int .i64 y, .int .i64 x, .bool bh, .string t]) := Lib.hid (by rw [← hwz]; exact ((((((HX.out.set 0 _).set 1 _).set 2 _).set 3 _).set 4 _).set 5 _).set 6 _)
                    have hnew : w.heap.size ≤ ix := by have := HIX.out; omega
                    have hcq : Chg wM wz (fun k => k = ix) := by
                      rw [← hwz]
                      exact (((((((Chg.refl wM (fun k => k = ix)).setCell (p := ⟨ix, 0, none⟩) (.inl rfl) _).setCell (p := ⟨ix, 1, none⟩) (.inl rfl) _).setCell (p := ⟨ix, 2, none⟩) (.inl rfl) _).setCell (p := ⟨ix, 3, none⟩) (.inl rfl) _).setCell (p := ⟨ix, 4, none⟩) (.inl rfl) _).setCell (p := ⟨ix, 5, none⟩) (.inl rfl) _).setCell (p := ⟨ix, 6, none⟩) (.inl rfl) _
                    have HCZ : Hid (Chg w wz nob) := Lib.hid (HC.out.trans hcq (fun i hi e => by omega))
                    rw [hwz]
                    clear hwz
                    have z0 := HXZ.out.cell 0
                    have z1 := HXZ.out.cell 1
                    have z2 := HXZ.out.cell 2
                    have z3 := HXZ.out.cell 3
                    have z4 := HXZ.out.cell 4
                    have z5 := HXZ.out.cell 5
                    have z6 := HXZ.out.cell 6
                    simp only [List.getElem?_toArray, List.getElem?_cons_zero, List.getElem?_cons_succ] at z0 z1 z2 z3 z4 z5 z6
                    clear f0 f1 f2 f3 f4 f5 f6 xx0 xx1 xx2 xx3 xx4 xx5 xx6 c0 c1 c2 c3 c4 c5 c6
                    iterate 2 go_step
                    go_step
                    refine HA2.out _ _ ?_
                    clear HA2
                    iterate 2 go_step
                    refine bodyPost_ret (v := .tuple #[scV a.r a.c (.slice ba n bn) y x bh t, .int .i64 0]) (by simp [results, Tryz.results9, go_sem, z0, z1, z2, z3, z4, z5, z6]) rfl ?_
                    have HCSZ : Hid (Cs w wz (.slice ba cs.length bn) cs) := Lib.hid ⟨by
                      rw [HL.out]
                      exact HSO.out.kept hcq (fun k hk e => HSO.out.ne HX.out (by decide) (by rwa [← e])), fun k hk => HOV.out k (by cases ba with | none => cases hk | some z => exact hk)⟩
                    exact ⟨HCZ.out, .some ⟨a.r, a.c, cs, y, x, bh, t⟩ ba bn HM1.out HN2.out (by (show Ending.returned (.tuple #[scV a.r a.c (.slice ba n bn) y x bh t, .int .i64 0]) = .returned (.tuple #[scV a.r a.c (.slice ba cs.length bn) y x bh t, .int .i64 0])); rw [HL.out]) HCSZ.out⟩
                    --}F
                  · skip
                    --{G
                    have HN2 : Hid (applyQ a d = none) := Lib.hid (by
                      rw [HAP.out, HDN.out, Option.bind_some, if_neg]
                      rintro ⟨_, h⟩
                      rw [← HSS.out] at h
                      exact hdd (HDD.out.symm.trans h))
                    have HDE : Hid (decide (D = d) = false) := Lib.hid (decide_eq_false hdd)
                    clear hdd
                    rename_i KZ AZ KA IH KB KC
                    have IHH := Lib.hid IH
                    clear AZ IH
                    go_wp2
                    refine IHH.out _ _ ?_
                    clear IHH
                    go_wp2_with fail
                    go_at_call 10
                    refine (bytes_by HBY.out (HD.out.kept HC.out)).mono ?_
                    rw [HDE.out]
                    rintro e' xx ⟨rfl, rfl⟩
                    have xx0 := HX.out.cell 0
                    have xx1 := HX.out.cell 1
                    have xx2 := HX.out.cell 2
                    have xx3 := HX.out.cell 3
                    have xx4 := HX.out.cell 4
                    have xx5 := HX.out.cell 5
                    have xx6 := HX.out.cell 6
                    simp only [List.getElem?_toArray, List.getElem?_cons_zero, List.getElem?_cons_succ] at xx0 xx1 xx2 xx3 xx4 xx5 xx6
                    have f0 := HX.out.free 0
                    have f1 := HX.out.free 1
                    have f2 := HX.out.free 2
                    have f3 := HX.out.free 3
                    have f4 := HX.out.free 4
                    have f5 := HX.out.free 5
                    have f6 := HX.out.free 6
                    go_upto_region 24 with (fail)
                    rename_i K1 A1 K2 A2
                    have HA1 := Lib.hid A1
                    have HA2 := Lib.hid A2
                    clear A1 A2 hdl hdc hl hs q0 q1 q2
                    iterate 9 go_step
                    obtain ⟨wz, hwz⟩ : ∃ W, ((((((World.setCell wM ⟨ix, 0, none⟩ (.int .i64 0)).setCell ⟨ix, 1, none⟩ (.int .i64 0)).setCell ⟨ix, 2, none⟩ (.slice none 0 0)).setCell ⟨ix, 3, none⟩ (.int .i64 0)).setCell ⟨ix, 4, none⟩ (.int .i64 0)).setCell ⟨ix, 5, none⟩ (.bool false)).setCell ⟨ix, 6, none⟩ (.string ⟨#[]⟩) = W := ⟨_, rfl⟩
                    have HXZ : Hid (Blk wz ix 24 #[.int .i64 0, .int .i64 0, .slice none 0 0, .int .i64 0, .int .i64 0, .bool false, .string ⟨#[]⟩]) := Lib.hid (by rw [← hwz]; exact ((((((HX.out.set 0 _).set 1 _).set 2 _).set 3 _).set 4 _).set 5 _).set 6 _)
                    have hnew : w.heap.size ≤ ix := by have := HIX.out; omega
                    have hcq : Chg wM wz (fun k => k = ix) := by
                      rw [← hwz]
                      exact (((((((Chg.refl wM (fun k => k = ix)).setCell (p := ⟨ix, 0, none⟩) (.inl rfl) _).setCell (p := ⟨ix, 1, none⟩) (.inl rfl) _).setCell (p := ⟨ix, 2, none⟩) (.inl rfl) _).setCell (p := ⟨ix, 3, none⟩) (.inl rfl) _).setCell (p := ⟨ix, 4, none⟩) (.inl rfl) _).setCell (p := ⟨ix, 5, none⟩) (.inl rfl) _).setCell (p := ⟨ix, 6, none⟩) (.inl rfl) _
                    have HCZ : Hid (Chg w wz nob) := Lib.hid (HC.out.trans hcq (fun i hi e => by omega))
                    rw [hwz]
                    clear hwz
                    have z0 := HXZ.out.cell 0
                    have z1 := HXZ.out.cell 1
                    have z2 := HXZ.out.cell 2
                    have z3 := HXZ.out.cell 3
                    have z4 := HXZ.out.cell 4
                    have z5 := HXZ.out.cell 5
                    have z6 := HXZ.out.cell 6
                    simp only [List.getElem?_toArray, List.getElem?_cons_zero, List.getElem?_cons_succ] at z0 z1 z2 z3 z4 z5 z6
                    clear f0 f1 f2 f3 f4 f5 f6 xx0 xx1 xx2 xx3 xx4 xx5 xx6
                    iterate 2 go_step
                    go_step
                    refine HA2.out _ _ ?_
                    clear HA1 HA2
                    iterate 2 go_step
                    refine bodyPost_ret (v := .tuple #[scV 0 0 (.slice none 0 0) 0 0 false ⟨#[]⟩, .int .i64 2]) (by simp [results, Tryz.results9, go_sem, z0, z1, z2, z3, z4, z5, z6]) rfl ?_
                    exact ⟨HCZ.out, .none HM1.out HN2.out rfl⟩
                    --}G
            · skip
              --{H
              have he0' : (er == 0) = false := by simpa using he0
              have HN2 : Hid (applyQ a d = none) := Lib.hid (by
                rw [HAP.out, HRQ.out]
                have : LQ = none := by
                  rcases HLQ.out with ⟨h, _⟩ | ⟨_, h⟩
                  · exact absurd h he0
                  · exact h
                rw [this]; rfl)
              have HE0 := Lib.hid he0
              have he0'' : (er != 0) = true := by simpa using he0
              clear he0
              have HSO : Hid (Own wo 47 5 (.slice ba n bn) n (cellsV cs)) := Lib.hid (by have h := HS.out.own; rwa [HL.out] at h)
              obtain ⟨S, hS⟩ : ∃ S : Sc, S = ⟨a.r, a.c, cs, y, x, bh, t⟩ := ⟨_, rfl⟩
              have HSS := Lib.hid hS
              have HMK : Hid (Calls Tryz.prog 7 #[scS a (.slice aa n ca), scV a.r a.c (.slice ba n bn) y x bh t] wo fun e w' => ∃ v, e = .returned (.tuple #[v, .int .i64 (okE S.may)]) ∧ Bx wo w' v (if S.may = true then diffL a S else [])) := Lib.hid (by
                have h := rmake_any wo a S (.slice aa n ca) (.slice ba n bn) (by have h := HA.out.kept HC.out (fun _ _ => id); rw [HN.out] at h ⊢; exact h) (by rw [hS]; (show Rd _ 5 (.slice ba n bn) cs.length (cellsV cs)); rw [HL.out]; exact HSO.out.rd) hl (by rw [hS]; (show cs.length ≤ _); have := HL.out; omega) hs (by rw [hS]; (show t.size ≤ _); omega) (HT.out.kept HC.out)
                rw [HM1.out, Bool.true_and] at h
                rw [hS] at h ⊢
                exact h)
              obtain ⟨ms, hms⟩ : ∃ m, S.may = m := ⟨_, rfl⟩
              have HMS := Lib.hid hms
              rw [hms] at HMK
              clear hms hS
              have u0 := HB.out.cell 0
              have u1 := HB.out.cell 1
              have u2 := HB.out.cell 2
              have u3 := HB.out.cell 3
              have u4 := HB.out.cell 4
              have u5 := HB.out.cell 5
              have u6 := HB.out.cell 6
              simp only [List.getElem?_toArray, List.getElem?_cons_zero, List.getElem?_cons_succ] at u0 u1 u2 u3 u4 u5 u6
              have c0 := HS.out.blk.cell 0
              have c1 := HS.out.blk.cell 1
              have c2 := HS.out.blk.cell 2
              have c3 := HS.out.blk.cell 3
              have c4 := HS.out.blk.cell 4
              have c5 := HS.out.blk.cell 5
              have c6 := HS.out.blk.cell 6
              simp only [List.getElem?_toArray, List.getElem?_cons_zero, List.getElem?_cons_succ] at c0 c1 c2 c3 c4 c5 c6
              go_wp2_with fail
              go_at_call 7
              refine HMK.out.mono ?_
              rintro e wM ⟨vm, rfl, hbm⟩
              have hck := hbm.2.1
              replace HS := Lib.hid (HS.out.kept hck)
              replace HSO := Lib.hid (HSO.out.kept hck (fun _ _ => id))
              replace HR := Lib.hid (HR.out.kept hck)
              replace HX := Lib.hid (HX.out.kept hck id)
              replace HC := Lib.hid (HC.out.trans hck (fun _ _ h => h))
              have HBM := Lib.hid hbm
              obtain ⟨am, nm, hvm, -⟩ := hbm.1.form
              have HVM := Lib.hid hvm
              clear hvm hck hbm u0 u1 u2 u3 u4 u5 u6 c0 c1 c2 c3 c4 c5 c6 HMK
              clear q0 q1 q2
              have q0 := HR.out.blk.cell 0
              have q1 := HR.out.blk.cell 1
              have q2 := HR.out.blk.cell 2
              simp only [List.getElem?_toArray, List.getElem?_cons_zero, List.getElem?_cons_succ] at q0 q1 q2
              have x0 := HX.out.cell 0
              have x1 := HX.out.cell 1
              have x2 := HX.out.cell 2
              have x3 := HX.out.cell 3
              have x4 := HX.out.cell 4
              have x5 := HX.out.cell 5
              have x6 := HX.out.cell 6
              simp only [List.getElem?_toArray, List.getElem?_cons_zero, List.getElem?_cons_succ] at x0 x1 x2 x3 x4 x5 x6
              have f0 := HX.out.free 0
              have f1 := HX.out.free 1
              have f2 := HX.out.free 2
              have f3 := HX.out.free 3
              have f4 := HX.out.free 4
              have f5 := HX.out.free 5
              have f6 := HX.out.free 6
              rename_i KZ AZ KA IH KB KC
              have IHH := Lib.hid IH
              clear AZ IH
              go_wp2
              refine IHH.out _ _ ?_
              clear IHH
              go_upto_region 24 with (fail)
              clear hat hqb he0' he0'' hal hdl hdc hl hs HBM HVM q0 q1 q2
              rename_i K1 A1 K2 A2
              have HA1 := Lib.hid A1
              have HA2 := Lib.hid A2
              clear A1 A2
              iterate 9 go_step
              obtain ⟨wz, hwz⟩ : ∃ W, ((((((World.setCell wM ⟨ix, 0, none⟩ (.int .i64 0)).setCell ⟨ix, 1, none⟩ (.int .i64 0)).setCell ⟨ix, 2, none⟩ (.slice none 0 0)).setCell ⟨ix, 3, none⟩ (.int .i64 0)).setCell ⟨ix, 4, none⟩ (.int .i64 0)).setCell ⟨ix, 5, none⟩ (.bool false)).setCell ⟨ix, 6, none⟩ (.string ⟨#[]⟩) = W := ⟨_, rfl⟩
              have HXZ : Hid (Blk wz ix 24 #[.int .i64 0, .int .i64 0, .slice none 0 0, .int .i64 0, .int .i64 0, .bool false, .string ⟨#[]⟩]) := Lib.hid (by rw [← hwz]; exact ((((((HX.out.set 0 _).set 1 _).set 2 _).set 3 _).set 4 _).set 5 _).set 6 _)
              have hnew : w.heap.size ≤ ix := by have := HIX.out; omega
              have hcq : Chg wM wz (fun k => k = ix) := by
                rw [← hwz]
                exact (((((((Chg.refl wM (fun k => k = ix)).setCell (p := ⟨ix, 0, none⟩) (.inl rfl) _).setCell (p := ⟨ix, 1, none⟩) (.inl rfl) _).setCell (p := ⟨ix, 2, none⟩) (.inl rfl) _).setCell (p := ⟨ix, 3, none⟩) (.inl rfl) _).setCell (p := ⟨ix, 4, none⟩) (.inl rfl) _).setCell (p := ⟨ix, 5, none⟩) (.inl rfl) _).setCell (p := ⟨ix, 6, none⟩) (.inl rfl) _
              have HCZ : Hid (Chg w wz nob) := Lib.hid (HC.out.trans hcq (fun i hi e => by omega))
              rw [hwz]
              clear hwz
              have z0 := HXZ.out.cell 0
              have z1 := HXZ.out.cell 1
              have z2 := HXZ.out.cell 2
              have z3 := HXZ.out.cell 3
              have z4 := HXZ.out.cell 4
              have z5 := HXZ.out.cell 5
              have z6 := HXZ.out.cell 6
              simp only [List.getElem?_toArray, List.getElem?_cons_zero, List.getElem?_cons_succ] at z0 z1 z2 z3 z4 z5 z6
              clear f0 f1 f2 f3 f4 f5 f6 x0 x1 x2 x3 x4 x5 x6
              iterate 2 go_step
              go_step
              refine HA2.out _ _ ?_
              clear HA1 HA2
              iterate 2 go_step
              refine bodyPost_ret (v := .tuple #[scV 0 0 (.slice none 0 0) 0 0 false ⟨#[]⟩, .int .i64 2]) (by simp [results, Tryz.results9, go_sem, z0, z1, z2, z3, z4, z5, z6]) rfl ?_
              exact ⟨HCZ.out, .none HM1.out HN2.out rfl⟩
              --}H
end Go.Proofs.YtmbdpcamhkdkmaaGreatDoor
