/-
  Package diff: Apply.
-/
import Derived.Test.YtmbdpcamhkdkmaaGreatDoorDiff6M
import Derived.Test.YtmbdpcamhkdkmaaGreatDoorDiff3M
import Derived.Deep.CutBlock
namespace Go.Proofs.YtmbdpcamhkdkmaaGreatDoor
open Go.RowKit
set_option linter.unusedVariables false
set_option linter.unusedSimpArgs false

theorem partQ_cons (a : Sc) (k : Int) (l : List Int) : partQ a (k :: l) = if k = 1 then decQ 256 l else if k = 0 then changedQ a l else none := rfl
/-- What comes of Apply. -/
inductive ApQ (a : Sc) (d : List Int) (w w' : World) (e' : Ending) : Prop
  | range (h : a.may = false) (he : e' = .returned (.tuple #[scV 0 0 (.slice none 0 0) 0 0 false ⟨#[]⟩, .int .i64 1])) : ApQ a d w w' e'
  | none (h : a.may = true) (hq : applyQ a d = none) (he : e' = .returned (.tuple #[scV 0 0 (.slice none 0 0) 0 0 false ⟨#[]⟩, .int .i64 2])) : ApQ a d w w' e'
  | some (s : Sc) (b : Option Addr) (n : Nat) (h : a.may = true) (hq : applyQ a d = some s) (he : e' = .returned (.tuple #[scS s (.slice b s.l.length n), .int .i64 0])) (hc : Cs w w' (.slice b s.l.length n) s.l) : ApQ a d w w' e'
attribute [local go_sem ↓] run_cut_l
set_option maxRecDepth 100000 in
set_option maxHeartbeats 4000000 in
theorem dapply_any (w : World) (a : Sc) (va : Value) (ha : Rd w 5 va a.l.length (cellsV a.l)) (hl : a.l.length ≤ 100000) (hs : a.t.size ≤ 100000) (vd : Value) (d : List Int) (hd : By w vd d) (hdl : d.length ≤ 1000000) (ht : Tab w) :
    Calls Tryz.prog 8 #[scS a va, vd] w fun e w' => Chg w w' nob ∧ ApQ a d w w' e := by
  obtain ⟨aa, ca, rfl, _⟩ := ha.form
  obtain ⟨ad, cd, rfl, hdc⟩ := hd.form
  have HA := Lib.hid ha
  have HD := Lib.hid hd
  have HT := Lib.hid ht
  obtain ⟨m1, hm1⟩ : ∃ m, a.may = m := ⟨_, rfl⟩
  have HM1 := Lib.hid hm1
  clear ha hd ht hm1
  go_enter Tryz.func8, Tryz.ntmps8
  go_upto_region 1 with (fail)
  obtain ⟨w1, hw⟩ : ∃ W, (w.alloc (.cells (scA a.r a.c (.slice aa a.l.length ca) a.y a.x a.h a.t) 24)).alloc (.cells zscr 24) = W := ⟨_, rfl⟩
  have HC : Hid (Chg w w1 nob) := Lib.hid (by rw [← hw]; exact ((Chg.refl w nob).alloc _).alloc _)
  have HB : Hid (Blk w1 w.heap.size 24 (scA a.r a.c (.slice aa a.l.length ca) a.y a.x a.h a.t)) := Lib.hid (by rw [← hw]; exact (Blk.new w _ _).alloc _)
  have HX : Hid (Blk w1 (w.heap.size + 1) 24 zscr) := Lib.hid (by rw [← hw]; exact Blk.new2' w _ _ _)
  have hw' := hw
  simp only [zscr] at hw'
  rw [hw']
  clear hw hw'
  obtain ⟨ia, hia⟩ : ∃ i, w.heap.size = i := ⟨_, rfl⟩
  have HIA := Lib.hid hia
  rw [hia] at HB HX ⊢
  clear hia
  obtain ⟨ix, hix⟩ : ∃ i, ia + 1 = i := ⟨_, rfl⟩
  have HIX : Hid (w.heap.size ≤ ix) := Lib.hid (by have := HIA.out; omega)
  rw [hix] at HX ⊢
  clear hix
  have u0 := HB.out.cell 0
  have u1 := HB.out.cell 1
  have u2 := HB.out.cell 2
  have u3 := HB.out.cell 3
  have u4 := HB.out.cell 4
  have u5 := HB.out.cell 5
  have u6 := HB.out.cell 6
  simp only [List.getElem?_toArray, List.getElem?_cons_zero, List.getElem?_cons_succ] at u0 u1 u2 u3 u4 u5 u6
  have HMA := Lib.hid (may_sc w1 a (.slice aa a.l.length ca) (HA.out.kept HC.out (fun _ _ => id)) (by omega) (by omega) (HT.out.kept HC.out))
  rw [HM1.out] at HMA
  go_wp2_with fail
  go_at_call 14
  refine HMA.out.mono ?_
  rintro e w2 ⟨rfl, hck⟩
  replace HB := Lib.hid (HB.out.kept hck id)
  replace HX := Lib.hid (HX.out.kept hck id)
  replace HC := Lib.hid (HC.out.trans hck (fun _ _ h => h))
  clear hck HMA u0 u1 u2 u3 u4 u5 u6
  cases m1 with
  | false =>
    have x0 := HX.out.cell 0
    have x1 := HX.out.cell 1
    have x2 := HX.out.cell 2
    have x3 := HX.out.cell 3
    have x4 := HX.out.cell 4
    have x5 := HX.out.cell 5
    have x6 := HX.out.cell 6
    simp only [List.getElem?_toArray, List.getElem?_cons_zero, List.getElem?_cons_succ] at x0 x1 x2 x3 x4 x5 x6
    have f0 := HX.out.free 0
    have f1 := HX.out.free 1
    have f2 := HX.out.free 2
    have f3 := HX.out.free 3
    have f4 := HX.out.free 4
    have f5 := HX.out.free 5
    have f6 := HX.out.free 6
    go_wp2
    obtain ⟨wz, hwz⟩ : ∃ W, ((((((World.setCell w2 ⟨ix, 0, none⟩ (.int .i64 0)).setCell ⟨ix, 1, none⟩ (.int .i64 0)).setCell ⟨ix, 2, none⟩ (.slice none 0 0)).setCell ⟨ix, 3, none⟩ (.int .i64 0)).setCell ⟨ix, 4, none⟩ (.int .i64 0)).setCell ⟨ix, 5, none⟩ (.bool false)).setCell ⟨ix, 6, none⟩ (.string ⟨#[]⟩) = W := ⟨_, rfl⟩
    have HXZ : Hid (Blk wz ix 24 #[.int .i64 0, .int .i64 0, .slice none 0 0, .int .i64 0, .int .i64 0, .bool false, .string ⟨#[]⟩]) := Lib.hid (by rw [← hwz]; exact ((((((HX.out.set 0 _).set 1 _).set 2 _).set 3 _).set 4 _).set 5 _).set 6 _)
    have hnew : w.heap.size ≤ ix := by have := HIX.out; omega
    have HCZ : Hid (Chg w wz nob) := Lib.hid (by
      rw [← hwz]
      exact ((((((HC.out.setCell (p := ⟨ix, 0, none⟩) (.inr hnew) _).setCell (p := ⟨ix, 1, none⟩) (.inr hnew) _).setCell (p := ⟨ix, 2, none⟩) (.inr hnew) _).setCell (p := ⟨ix, 3, none⟩) (.inr hnew) _).setCell (p := ⟨ix, 4, none⟩) (.inr hnew) _).setCell (p := ⟨ix, 5, none⟩) (.inr hnew) _).setCell (p := ⟨ix, 6, none⟩) (.inr hnew) _)
    have hcq : Chg w2 wz (fun k => k = ix) := by
      rw [← hwz]
      exact (((((((Chg.refl w2 (fun k => k = ix)).setCell (p := ⟨ix, 0, none⟩) (.inl rfl) _).setCell (p := ⟨ix, 1, none⟩) (.inl rfl) _).setCell (p := ⟨ix, 2, none⟩) (.inl rfl) _).setCell (p := ⟨ix, 3, none⟩) (.inl rfl) _).setCell (p := ⟨ix, 4, none⟩) (.inl rfl) _).setCell (p := ⟨ix, 5, none⟩) (.inl rfl) _).setCell (p := ⟨ix, 6, none⟩) (.inl rfl) _
    rw [hwz]
    clear hwz
    have z0 := HXZ.out.cell 0
    have z1 := HXZ.out.cell 1
    have z2 := HXZ.out.cell 2
    have z3 := HXZ.out.cell 3
    have z4 := HXZ.out.cell 4
    have z5 := HXZ.out.cell 5
    have z6 := HXZ.out.cell 6
    simp only [List.getElem?_toArray, List.getElem?_cons_zero, List.getElem?_cons_succ] at z0 z1 z2 z3 z4 z5 z6
    refine bodyPost_ret (v := .tuple #[scV 0 0 (.slice none 0 0) 0 0 false ⟨#[]⟩, .int .i64 1]) (by simp [results, Tryz.results8, go_sem, z0, z1, z2, z3, z4, z5, z6]) rfl ?_
    exact ⟨HCZ.out, .range HM1.out rfl⟩
  | true =>
    have hal : a.l.length ≤ 12000 := by
      obtain ⟨⟨_, q1⟩, ⟨_, q2⟩, ⟨_, _⟩, ⟨_, _⟩, q3, _, q4⟩ := Sc.may_b HM1.out
      have : a.r * a.c ≤ 60 * 200 := Int.mul_le_mul q1 q2 (by omega) (by omega)
      omega
    go_wp2_with fail
    go_at_call 23
    refine (newrdr_any w2 _ d (HD.out.kept HC.out) (by omega)).mono ?_
    rintro e' w3 ⟨g, u, rfl, hr, hck, hg, _⟩
    have HR := Lib.hid hr
    have HG : Hid (w.heap.size ≤ g) := Lib.hid (Nat.le_trans HC.out.size hg)
    replace HB := Lib.hid (HB.out.kept hck id)
    replace HX := Lib.hid (HX.out.kept hck id)
    replace HC := Lib.hid (HC.out.trans hck (fun _ _ h => h))
    clear hr hck hg
    go_upto_region 6 with (fail)
    obtain ⟨w4, hw⟩ : ∃ W, w3.alloc (.cells zscr 24) = W := ⟨_, rfl⟩
    have hck : Chg w3 w4 nob := by rw [← hw]; exact (Chg.refl w3 nob).alloc _
    have HY : Hid (Blk w4 w3.heap.size 24 zscr) := Lib.hid (by rw [← hw]; exact Blk.new w3 _ _)
    have hw' := hw
    simp only [zscr] at hw'
    rw [hw']
    clear hw hw'
    have HIY : Hid (w.heap.size ≤ w3.heap.size) := Lib.hid HC.out.size
    have HXY : Hid (ix ≠ w3.heap.size ∧ ia ≠ w3.heap.size) := Lib.hid ⟨fun e => by have := HX.out.lt; omega, fun e => by have := HB.out.lt; omega⟩
    obtain ⟨iy, hiy⟩ : ∃ i, w3.heap.size = i := ⟨_, rfl⟩
    rw [hiy] at HY HIY HXY ⊢
    clear hiy
    replace HR := Lib.hid (HR.out.kept hck)
    replace HB := Lib.hid (HB.out.kept hck id)
    replace HX := Lib.hid (HX.out.kept hck id)
    replace HC := Lib.hid (HC.out.trans hck (fun _ _ h => h))
    clear hck
    go_wp2_with fail
    go_at_call 24
    refine (rdraw_any w4 g u d 0 0 HR.out 1 (by decide)).mono ?_
    rintro e' w5 ⟨vf, L, q, e1, rfl, hr⟩
    replace HB := Lib.hid (HB.out.rd HR.out (by decide) hr.c)
    replace HX := Lib.hid (HX.out.rd HR.out (by decide) hr.c)
    replace HY := Lib.hid (HY.out.rd HR.out (by decide) hr.c)
    replace HC : Hid (Chg w w5 nob) := Lib.hid (HC.out.trans hr.c (fun i hi e => by have := HG.out; omega))
    replace HR := Lib.hid hr.r
    have HRS := Lib.hid hr.s
    have HRV := Lib.hid hr.v
    obtain ⟨af, cf, rfl, _⟩ := hr.v.1.form
    clear hr
    go_upto_block 0 with (fail)
    go_cut [8] (fun okv wx => ∃ (S : Sc) (sv : Value) (ok : Bool), okv = .bool ok ∧ Hid (ok = (partQ a d).isSome ∧ ∀ z, partQ a d = some z → z = S) ∧ Hid (Cs w wx sv S.l ∧ Blk wx iy 24 (scL S sv)) ∧ Hid (S.l.length ≤ 12000 ∧ S.t.size ≤ 256) ∧ Hid (Chg w wx nob) ∧ Hid (Blk wx ia 24 (scA a.r a.c (.slice aa a.l.length ca) a.y a.x a.h a.t)) ∧ Hid (Blk wx ix 24 zscr))
    case first =>
      by_cases hd0 : d = []
      · subst hd0
        have he1 : e1 ≠ 0 := by
          rcases HRS.out with ⟨_, _, h, _⟩ | ⟨h, _⟩
          · simp at h
          · exact h
        have he1' : (e1 != 0) = true := by simpa using he1
        clear he1 HRS
        go_wp2_with fail
        go_at_call 25
        refine (err_any w5 g u [] q e1 HR.out).mono ?_
        rintro e' xx ⟨rfl, rfl⟩
        go_wp2
        go_meet
        exact ⟨⟨0, 0, [], 0, 0, false, ⟨#[]⟩⟩, .slice none 0 0, false, rfl, Lib.hid ⟨rfl, fun z hz => by cases hz⟩, Lib.hid ⟨Cs.nil _ _, HY.out⟩, Lib.hid ⟨Nat.zero_le _, Nat.zero_le _⟩, HC, HB, HX⟩
      · obtain ⟨k, l, hkl⟩ : ∃ k l, d = k :: l := by
          cases d with
          | nil => exact absurd rfl hd0
          | cons k l => exact ⟨k, l, rfl⟩
        have HDL := Lib.hid hkl
        have hlen : l.length = d.length - 1 := by rw [hkl]; rfl
        have hdp : 1 ≤ d.length := by rw [hkl]; simp
        have hrs : e1 = 0 ∧ q = 1 ∧ L = [k] := by
          rcases HRS.out with ⟨h1, _, _, h2, h3⟩ | ⟨_, _, h | h⟩
          · exact ⟨h1, h2, by rw [h3, hkl]; rfl⟩
          · exact absurd rfl h
          · omega
        obtain ⟨rfl, rfl, rfl⟩ := hrs
        have hk := HD.out.byte k (by rw [hkl]; exact List.mem_cons_self ..)
        have HLB : Hid (∀ x ∈ l, 0 ≤ x ∧ x ≤ 255) := Lib.hid (fun x hx => HD.out.byte x (by rw [hkl]; exact List.mem_cons_of_mem _ hx))
        clear hd0 hkl
        obtain ⟨gf, hgf⟩ : ∃ g, af = some ⟨g, 0, none⟩ ∧ w5.cell? ⟨g, 0, none⟩ = some (.int .u8 k) := by
          obtain ⟨g, h1, h2⟩ := HRV.out.1.at (j := 0) (by simp)
          exact ⟨g, h1, h2⟩
        obtain ⟨rfl, hcf⟩ := hgf
        clear HRS
        have HF : Hid (∀ wx, Chg w5 wx nob → wx.cell? ⟨gf, 0, none⟩ = some (.int .u8 k)) := Lib.hid (fun wx hc => hc.cell hcf id)
        rcases (show k = 1 ∨ k = 0 ∨ (k ≠ 1 ∧ k ≠ 0) by omega) with hk1 | hk0 | ⟨hk1, hk0⟩
        · subst hk1
          have HBY : Hid (∀ wx, Chg w wx nob → By wx (.slice (addS ad cd 1) (d.length - 1) (cd - 1)) l) := Lib.hid (fun wx hc => by
            have h := (HD.out.kept hc).drop (l := 1) (by omega)
            rwa [HDL.out, List.drop_succ_cons, List.drop_zero, ← HDL.out] at h)
          have hd1 : (1 : Int) ≤ (d.length : Int) := by omega
          obtain ⟨DQ, hDQ⟩ : ∃ o, decQ 256 l = o := ⟨_, rfl⟩
          have HDQ := Lib.hid hDQ
          have hS := decS_len (tm := 256) (by decide) HLB.out
          rw [hDQ] at hS
          clear hDQ
          go_wp2_with fail
          go_at_call 25
          refine (err_any w5 g u _ 1 0 HR.out).mono ?_
          rintro e' xx ⟨rfl, rfl⟩
          have hcf2 := HF.out w5 (Chg.refl _ _)
          go_wp2_with fail
          go_at_call 26
          have hdd := kdec_u w5 _ l (HBY.out w5 HC.out) (by omega) (HT.out.kept HC.out) DQ HDQ.out
          obtain ⟨S, hSS⟩ : ∃ S, decS DQ = S := ⟨_, rfl⟩
          obtain ⟨E, hE⟩ : ∃ E, decE DQ = E := ⟨_, rfl⟩
          rw [hSS] at hS
          rw [hSS, hE] at hdd
          refine hdd.mono ?_
          clear hdd
          rintro e' w6 ⟨sa, sn, rfl, hcs, hck⟩
          have HE1 : Hid ((E == 0) = (partQ a d).isSome) := Lib.hid (by
            rw [HDL.out, partQ_cons, if_pos rfl, HDQ.out, ← hE]
            cases DQ <;> rfl)
          have HE2 : Hid (∀ z, partQ a d = some z → z = S) := Lib.hid (fun z hz => by
            rw [HDL.out, partQ_cons, if_pos rfl, HDQ.out] at hz
            subst hz
            exact hSS)
          have HST : Hid (S.l.length ≤ 12000 ∧ S.t.size ≤ 256) := Lib.hid ⟨hS, by
            rw [← hSS]
            cases hq : DQ with
            | none => exact Nat.zero_le _
            | some x =>
              rw [hq] at HDQ
              exact (Sc.may_b (decQ_back (by decide) HLB.out HDQ.out).2).2.2.2.2.2.2⟩
          have HCS := Lib.hid (hcs.newer HC.out)
          clear hcs hSS hE hS hcf2
          replace HY := Lib.hid (HY.out.kept hck id)
          replace HB := Lib.hid (HB.out.kept hck id)
          replace HX := Lib.hid (HX.out.kept hck id)
          replace HC := Lib.hid (HC.out.trans hck (fun _ _ h => h))
          clear hck
          have y0 := HY.out.cell 0
          have y1 := HY.out.cell 1
          have y2 := HY.out.cell 2
          have y3 := HY.out.cell 3
          have y4 := HY.out.cell 4
          have y5 := HY.out.cell 5
          have y6 := HY.out.cell 6
          simp only [List.getElem?_toArray, List.getElem?_cons_zero, List.getElem?_cons_succ] at y0 y1 y2 y3 y4 y5 y6
          have h0 := HY.out.free 0
          have h1 := HY.out.free 1
          have h2 := HY.out.free 2
          have h3 := HY.out.free 3
          have h4 := HY.out.free 4
          have h5 := HY.out.free 5
          have h6 := HY.out.free 6
          go_wp2
          obtain ⟨wz, hwz⟩ : ∃ W, ((((((World.setCell w6 ⟨iy, 0, none⟩ (.int .i64 S.r)).setCell ⟨iy, 1, none⟩ (.int .i64 S.c)).setCell ⟨iy, 2, none⟩ (.slice sa S.l.length sn)).setCell ⟨iy, 3, none⟩ (.int .i64 S.y)).setCell ⟨iy, 4, none⟩ (.int .i64 S.x)).setCell ⟨iy, 5, none⟩ (.bool S.h)).setCell ⟨iy, 6, none⟩ (.string S.t) = W := ⟨_, rfl⟩
          have HYZ : Hid (Blk wz iy 24 (scL S (.slice sa S.l.length sn))) := Lib.hid (by rw [← hwz]; exact ((((((HY.out.set 0 _).set 1 _).set 2 _).set 3 _).set 4 _).set 5 _).set 6 _)
          have hcq : Chg w6 wz (fun k => k = iy) := by
            rw [← hwz]
            exact (((((((Chg.refl w6 (fun k => k = iy)).setCell (p := ⟨iy, 0, none⟩) (.inl rfl) _).setCell (p := ⟨iy, 1, none⟩) (.inl rfl) _).setCell (p := ⟨iy, 2, none⟩) (.inl rfl) _).setCell (p := ⟨iy, 3, none⟩) (.inl rfl) _).setCell (p := ⟨iy, 4, none⟩) (.inl rfl) _).setCell (p := ⟨iy, 5, none⟩) (.inl rfl) _).setCell (p := ⟨iy, 6, none⟩) (.inl rfl) _
          have HCZ : Hid (Chg w wz nob) := Lib.hid (HC.out.trans hcq (fun i hi e => by have := HIY.out; omega))
          rw [hwz]
          clear hwz
          go_meet
          exact ⟨S, _, _, rfl, Lib.hid ⟨HE1.out, HE2.out⟩, Lib.hid ⟨HCS.out.ofChg hcq (fun k hk e => HCS.out.1.ne HY.out (by decide) (by rwa [← e])), HYZ.out⟩, HST, HCZ, Lib.hid (HB.out.kept hcq HXY.out.2), Lib.hid (HX.out.kept hcq HXY.out.1)⟩
        · subst hk0
          have hcf2 := HF.out w5 (Chg.refl _ _)
          obtain ⟨PQ, hPQ⟩ : ∃ o, changedQ a l = o := ⟨_, rfl⟩
          have HCH := Lib.hid (changed_any w w5 a (.slice aa a.l.length ca) (HA.out.kept HC.out (fun _ _ => id)) hal g u d 1 HR.out HC.out HG.out HT.out)
          have hdr : d.drop 1 = l := by rw [HDL.out]; rfl
          rw [hdr, hPQ] at HCH
          clear hdr
          have HPQ : Hid (partQ a d = PQ) := Lib.hid (by rw [HDL.out, partQ_cons, if_neg (by decide), if_pos rfl, hPQ])
          clear hPQ
          have u0 := HB.out.cell 0
          have u1 := HB.out.cell 1
          have u2 := HB.out.cell 2
          have u3 := HB.out.cell 3
          have u4 := HB.out.cell 4
          have u5 := HB.out.cell 5
          have u6 := HB.out.cell 6
          simp only [List.getElem?_toArray, List.getElem?_cons_zero, List.getElem?_cons_succ] at u0 u1 u2 u3 u4 u5 u6
          go_wp2_with fail
          go_at_call 25
          refine (err_any w5 g u _ 1 0 HR.out).mono ?_
          rintro e' xx ⟨rfl, rfl⟩
          go_wp2_with fail
          go_at_call 27
          refine HCH.out.mono ?_
          rintro e' w6 ⟨S, sv, ok, rfl, hok, hcs, hck, hz, hsl, hst⟩
          obtain ⟨sa, sn, rfl, _⟩ := hcs.form
          have HE1 : Hid (ok = (partQ a d).isSome) := Lib.hid (by rw [HPQ.out]; exact hok)
          have HE2 : Hid (∀ z, partQ a d = some z → z = S) := Lib.hid (by rw [HPQ.out]; exact hz)
          have HST : Hid (S.l.length ≤ 12000 ∧ S.t.size ≤ 256) := Lib.hid ⟨by omega, hst⟩
          have HCS := Lib.hid (hcs.newer HC.out)
          clear hcs hok hz hsl hst hcf2 u0 u1 u2 u3 u4 u5 u6
          replace HY := Lib.hid (HY.out.rd HR.out (by decide) hck)
          replace HB := Lib.hid (HB.out.rd HR.out (by decide) hck)
          replace HX := Lib.hid (HX.out.rd HR.out (by decide) hck)
          replace HC : Hid (Chg w w6 nob) := Lib.hid (HC.out.trans hck (fun i hi e => by have := HG.out; omega))
          clear hck
          have y0 := HY.out.cell 0
          have y1 := HY.out.cell 1
          have y2 := HY.out.cell 2
          have y3 := HY.out.cell 3
          have y4 := HY.out.cell 4
          have y5 := HY.out.cell 5
          have y6 := HY.out.cell 6
          simp only [List.getElem?_toArray, List.getElem?_cons_zero, List.getElem?_cons_succ] at y0 y1 y2 y3 y4 y5 y6
          have h0 := HY.out.free 0
          have h1 := HY.out.free 1
          have h2 := HY.out.free 2
          have h3 := HY.out.free 3
          have h4 := HY.out.free 4
          have h5 := HY.out.free 5
          have h6 := HY.out.free 6
          go_wp2
          obtain ⟨wz, hwz⟩ : ∃ W, ((((((World.setCell w6 ⟨iy, 0, none⟩ (.int .i64 S.r)).setCell ⟨iy, 1, none⟩ (.int .i64 S.c)).setCell ⟨iy, 2, none⟩ (.slice sa S.l.length sn)).setCell ⟨iy, 3, none⟩ (.int .i64 S.y)).setCell ⟨iy, 4, none⟩ (.int .i64 S.x)).setCell ⟨iy, 5, none⟩ (.bool S.h)).setCell ⟨iy, 6, none⟩ (.string S.t) = W := ⟨_, rfl⟩
          have HYZ : Hid (Blk wz iy 24 (scL S (.slice sa S.l.length sn))) := Lib.hid (by rw [← hwz]; exact ((((((HY.out.set 0 _).set 1 _).set 2 _).set 3 _).set 4 _).set 5 _).set 6 _)
          have hcq : Chg w6 wz (fun k => k = iy) := by
            rw [← hwz]
            exact (((((((Chg.refl w6 (fun k => k = iy)).setCell (p := ⟨iy, 0, none⟩) (.inl rfl) _).setCell (p := ⟨iy, 1, none⟩) (.inl rfl) _).setCell (p := ⟨iy, 2, none⟩) (.inl rfl) _).setCell (p := ⟨iy, 3, none⟩) (.inl rfl) _).setCell (p := ⟨iy, 4, none⟩) (.inl rfl) _).setCell (p := ⟨iy, 5, none⟩) (.inl rfl) _).setCell (p := ⟨iy, 6, none⟩) (.inl rfl) _
          have HCZ : Hid (Chg w wz nob) := Lib.hid (HC.out.trans hcq (fun i hi e => by have := HIY.out; omega))
          rw [hwz]
          clear hwz
          go_meet
          exact ⟨S, _, _, rfl, Lib.hid ⟨HE1.out, HE2.out⟩, Lib.hid ⟨HCS.out.ofChg hcq (fun k hk e => HCS.out.1.ne HY.out (by decide) (by rwa [← e])), HYZ.out⟩, HST, HCZ, Lib.hid (HB.out.kept hcq HXY.out.2), Lib.hid (HX.out.kept hcq HXY.out.1)⟩
        · have hk1' : (k == 1) = false := by simpa using hk1
          have hk0' : (k == 0) = false := by simpa using hk0
          have HPQ : Hid (partQ a d = none) := Lib.hid (by rw [HDL.out, partQ_cons, if_neg hk1, if_neg hk0])
          have hcf2 := HF.out w5 (Chg.refl _ _)
          clear hk1 hk0
          go_wp2_with fail
          go_at_call 25
          refine (err_any w5 g u _ 1 0 HR.out).mono ?_
          rintro e' xx ⟨rfl, rfl⟩
          go_wp2
          go_meet
          exact ⟨⟨0, 0, [], 0, 0, false, ⟨#[]⟩⟩, .slice none 0 0, false, rfl, Lib.hid ⟨by rw [HPQ.out]; rfl, fun z hz => by rw [HPQ.out] at hz; cases hz⟩, Lib.hid ⟨Cs.nil _ _, HY.out⟩, Lib.hid ⟨Nat.zero_le _, Nat.zero_le _⟩, HC, HB, HX⟩
    case rest =>
      obtain ⟨S, sv, ok, rfl, HOK, HS, HSB, HC, HB, HX⟩ := hcut
      rename World => w6
      cases ok with
      | false =>
        have HAQ : Hid (applyQ a d = none) := Lib.hid (by
          have h := HOK.out.1
          unfold applyQ
          cases hq : partQ a d with
          | none => rfl
          | some z => rw [hq] at h; cases h)
        have x0 := HX.out.cell 0
        have x1 := HX.out.cell 1
        have x2 := HX.out.cell 2
        have x3 := HX.out.cell 3
        have x4 := HX.out.cell 4
        have x5 := HX.out.cell 5
        have x6 := HX.out.cell 6
        simp only [List.getElem?_toArray, List.getElem?_cons_zero, List.getElem?_cons_succ] at x0 x1 x2 x3 x4 x5 x6
        have f0 := HX.out.free 0
        have f1 := HX.out.free 1
        have f2 := HX.out.free 2
        have f3 := HX.out.free 3
        have f4 := HX.out.free 4
        have f5 := HX.out.free 5
        have f6 := HX.out.free 6
        go_wp2
        obtain ⟨wz, hwz⟩ : ∃ W, ((((((World.setCell w6 ⟨ix, 0, none⟩ (.int .i64 0)).setCell ⟨ix, 1, none⟩ (.int .i64 0)).setCell ⟨ix, 2, none⟩ (.slice none 0 0)).setCell ⟨ix, 3, none⟩ (.int .i64 0)).setCell ⟨ix, 4, none⟩ (.int .i64 0)).setCell ⟨ix, 5, none⟩ (.bool false)).setCell ⟨ix, 6, none⟩ (.string ⟨#[]⟩) = W := ⟨_, rfl⟩
        have HXZ : Hid (Blk wz ix 24 #[.int .i64 0, .int .i64 0, .slice none 0 0, .int .i64 0, .int .i64 0, .bool false, .string ⟨#[]⟩]) := Lib.hid (by rw [← hwz]; exact ((((((HX.out.set 0 _).set 1 _).set 2 _).set 3 _).set 4 _).set 5 _).set 6 _)
        have hnew : w.heap.size ≤ ix := by have := HIX.out; omega
        have HCZ : Hid (Chg w wz nob) := Lib.hid (by
          rw [← hwz]
          exact ((((((HC.out.setCell (p := ⟨ix, 0, none⟩) (.inr hnew) _).setCell (p := ⟨ix, 1, none⟩) (.inr hnew) _).setCell (p := ⟨ix, 2, none⟩) (.inr hnew) _).setCell (p := ⟨ix, 3, none⟩) (.inr hnew) _).setCell (p := ⟨ix, 4, none⟩) (.inr hnew) _).setCell (p := ⟨ix, 5, none⟩) (.inr hnew) _).setCell (p := ⟨ix, 6, none⟩) (.inr hnew) _)
        have hcq : Chg w6 wz (fun k => k = ix) := by
          rw [← hwz]
          exact (((((((Chg.refl w6 (fun k => k = ix)).setCell (p := ⟨ix, 0, none⟩) (.inl rfl) _).setCell (p := ⟨ix, 1, none⟩) (.inl rfl) _).setCell (p := ⟨ix, 2, none⟩) (.inl rfl) _).setCell (p := ⟨ix, 3, none⟩) (.inl rfl) _).setCell (p := ⟨ix, 4, none⟩) (.inl rfl) _).setCell (p := ⟨ix, 5, none⟩) (.inl rfl) _).setCell (p := ⟨ix, 6, none⟩) (.inl rfl) _
        rw [hwz]
        clear hwz
        have z0 := HXZ.out.cell 0
        have z1 := HXZ.out.cell 1
        have z2 := HXZ.out.cell 2
        have z3 := HXZ.out.cell 3
        have z4 := HXZ.out.cell 4
        have z5 := HXZ.out.cell 5
        have z6 := HXZ.out.cell 6
        simp only [List.getElem?_toArray, List.getElem?_cons_zero, List.getElem?_cons_succ] at z0 z1 z2 z3 z4 z5 z6
        refine bodyPost_ret (v := .tuple #[scV 0 0 (.slice none 0 0) 0 0 false ⟨#[]⟩, .int .i64 2]) (by simp [results, Tryz.results8, go_sem, z0, z1, z2, z3, z4, z5, z6]) rfl ?_
        exact ⟨HCZ.out, .none HM1.out HAQ.out rfl⟩
      | true =>
        have HPQ : Hid (partQ a d = some S) := Lib.hid (by
          have h := HOK.out.1
          cases hq : partQ a d with
          | none => rw [hq] at h; cases h
          | some z => rw [HOK.out.2 z hq])
        obtain ⟨bs, ns, hsv, _⟩ := HS.out.1.form
        subst hsv
        have HS1 := Lib.hid HS.out.1
        have HY := Lib.hid HS.out.2
        obtain ⟨hsl, hst⟩ := HSB.out
        obtain ⟨m2, hm2⟩ : ∃ m, S.may = m := ⟨_, rfl⟩
        have HM2 := Lib.hid hm2
        have HMK := Lib.hid (dmake_any w6 a S (.slice aa a.l.length ca) (.slice bs S.l.length ns) (HA.out.kept HC.out (fun _ _ => id)) HS1.out.1.rd hl (by omega) hs (by omega) (HT.out.kept HC.out))
        rw [HM1.out, hm2, Bool.true_and] at HMK
        obtain ⟨D, hD⟩ : ∃ D, diffL a S = D := ⟨_, rfl⟩
        have HDD := Lib.hid hD
        have HDB : Hid (∀ x ∈ D, 0 ≤ x ∧ x ≤ 255) := Lib.hid (by rw [← hD]; exact diffL_b a S)
        rw [hD] at HMK
        clear hm2 hD HS
        have u0 := HB.out.cell 0
        have u1 := HB.out.cell 1
        have u2 := HB.out.cell 2
        have u3 := HB.out.cell 3
        have u4 := HB.out.cell 4
        have u5 := HB.out.cell 5
        have u6 := HB.out.cell 6
        simp only [List.getElem?_toArray, List.getElem?_cons_zero, List.getElem?_cons_succ] at u0 u1 u2 u3 u4 u5 u6
        have y0 := HY.out.cell 0
        have y1 := HY.out.cell 1
        have y2 := HY.out.cell 2
        have y3 := HY.out.cell 3
        have y4 := HY.out.cell 4
        have y5 := HY.out.cell 5
        have y6 := HY.out.cell 6
        simp only [List.getElem?_toArray, List.getElem?_cons_zero, List.getElem?_cons_succ] at y0 y1 y2 y3 y4 y5 y6
        go_wp2_with fail
        go_at_call 6
        refine HMK.out.mono ?_
        rintro e' w7 ⟨vm, rfl, hbm⟩
        have hck := hbm.2.1
        replace HX := Lib.hid (HX.out.kept hck id)
        replace HY := Lib.hid (HY.out.kept hck id)
        replace HS1 := Lib.hid (HS1.out.kept hck)
        replace HC := Lib.hid (HC.out.trans hck (fun _ _ h => h))
        clear HMK hck u0 u1 u2 u3 u4 u5 u6 y0 y1 y2 y3 y4 y5 y6
        cases m2 with
        | false =>
          have HAQ : Hid (applyQ a d = none) := Lib.hid (by
            unfold applyQ
            rw [HPQ.out, Option.bind_some, if_neg (fun h => by rw [HM2.out] at h; exact absurd h.1 (by simp))])
          clear hbm
          simp only [okE]
          have x0 := HX.out.cell 0
          have x1 := HX.out.cell 1
          have x2 := HX.out.cell 2
          have x3 := HX.out.cell 3
          have x4 := HX.out.cell 4
          have x5 := HX.out.cell 5
          have x6 := HX.out.cell 6
          simp only [List.getElem?_toArray, List.getElem?_cons_zero, List.getElem?_cons_succ] at x0 x1 x2 x3 x4 x5 x6
          have f0 := HX.out.free 0
          have f1 := HX.out.free 1
          have f2 := HX.out.free 2
          have f3 := HX.out.free 3
          have f4 := HX.out.free 4
          have f5 := HX.out.free 5
          have f6 := HX.out.free 6
          go_wp2
          obtain ⟨wz, hwz⟩ : ∃ W, ((((((World.setCell w7 ⟨ix, 0, none⟩ (.int .i64 0)).setCell ⟨ix, 1, none⟩ (.int .i64 0)).setCell ⟨ix, 2, none⟩ (.slice none 0 0)).setCell ⟨ix, 3, none⟩ (.int .i64 0)).setCell ⟨ix, 4, none⟩ (.int .i64 0)).setCell ⟨ix, 5, none⟩ (.bool false)).setCell ⟨ix, 6, none⟩ (.string ⟨#[]⟩) = W := ⟨_, rfl⟩
          have HXZ : Hid (Blk wz ix 24 #[.int .i64 0, .int .i64 0, .slice none 0 0, .int .i64 0, .int .i64 0, .bool false, .string ⟨#[]⟩]) := Lib.hid (by rw [← hwz]; exact ((((((HX.out.set 0 _).set 1 _).set 2 _).set 3 _).set 4 _).set 5 _).set 6 _)
          have hnew : w.heap.size ≤ ix := by have := HIX.out; omega
          have HCZ : Hid (Chg w wz nob) := Lib.hid (by
            rw [← hwz]
            exact ((((((HC.out.setCell (p := ⟨ix, 0, none⟩) (.inr hnew) _).setCell (p := ⟨ix, 1, none⟩) (.inr hnew) _).setCell (p := ⟨ix, 2, none⟩) (.inr hnew) _).setCell (p := ⟨ix, 3, none⟩) (.inr hnew) _).setCell (p := ⟨ix, 4, none⟩) (.inr hnew) _).setCell (p := ⟨ix, 5, none⟩) (.inr hnew) _).setCell (p := ⟨ix, 6, none⟩) (.inr hnew) _)
          have hcq : Chg w7 wz (fun k => k = ix) := by
            rw [← hwz]
            exact (((((((Chg.refl w7 (fun k => k = ix)).setCell (p := ⟨ix, 0, none⟩) (.inl rfl) _).setCell (p := ⟨ix, 1, none⟩) (.inl rfl) _).setCell (p := ⟨ix, 2, none⟩) (.inl rfl) _).setCell (p := ⟨ix, 3, none⟩) (.inl rfl) _).setCell (p := ⟨ix, 4, none⟩) (.inl rfl) _).setCell (p := ⟨ix, 5, none⟩) (.inl rfl) _).setCell (p := ⟨ix, 6, none⟩) (.inl rfl) _
          rw [hwz]
          clear hwz
          have z0 := HXZ.out.cell 0
          have z1 := HXZ.out.cell 1
          have z2 := HXZ.out.cell 2
          have z3 := HXZ.out.cell 3
          have z4 := HXZ.out.cell 4
          have z5 := HXZ.out.cell 5
          have z6 := HXZ.out.cell 6
          simp only [List.getElem?_toArray, List.getElem?_cons_zero, List.getElem?_cons_succ] at z0 z1 z2 z3 z4 z5 z6
          refine bodyPost_ret (v := .tuple #[scV 0 0 (.slice none 0 0) 0 0 false ⟨#[]⟩, .int .i64 2]) (by simp [results, Tryz.results8, go_sem, z0, z1, z2, z3, z4, z5, z6]) rfl ?_
          exact ⟨HCZ.out, .none HM1.out HAQ.out rfl⟩
        | true =>
          simp only [if_true] at hbm
          have HBY := Lib.hid (By.ofBx hbm HDB.out)
          clear hbm
          obtain ⟨am, cm, rfl, _⟩ := HBY.out.form
          simp only [okE, if_true]
          by_cases hdd : D = d
          · have HAQ : Hid (applyQ a d = some S) := Lib.hid (by
              unfold applyQ
              rw [HPQ.out, Option.bind_some, if_pos ⟨HM2.out, HDD.out.trans hdd⟩])
            have HDE : Hid (decide (D = d) = true) := Lib.hid (decide_eq_true hdd)
            clear hdd
            go_wp2_with fail
            go_at_call 28
            refine (bequal_by HBY.out (HD.out.kept HC.out)).mono ?_
            rw [HDE.out]
            rintro e' xx ⟨rfl, rfl⟩
            have x0 := HX.out.cell 0
            have x1 := HX.out.cell 1
            have x2 := HX.out.cell 2
            have x3 := HX.out.cell 3
            have x4 := HX.out.cell 4
            have x5 := HX.out.cell 5
            have x6 := HX.out.cell 6
            simp only [List.getElem?_toArray, List.getElem?_cons_zero, List.getElem?_cons_succ] at x0 x1 x2 x3 x4 x5 x6
            have f0 := HX.out.free 0
            have f1 := HX.out.free 1
            have f2 := HX.out.free 2
            have f3 := HX.out.free 3
            have f4 := HX.out.free 4
            have f5 := HX.out.free 5
            have f6 := HX.out.free 6
            have y0 := HY.out.cell 0
            have y1 := HY.out.cell 1
            have y2 := HY.out.cell 2
            have y3 := HY.out.cell 3
            have y4 := HY.out.cell 4
            have y5 := HY.out.cell 5
            have y6 := HY.out.cell 6
            simp only [List.getElem?_toArray, List.getElem?_cons_zero, List.getElem?_cons_succ] at y0 y1 y2 y3 y4 y5 y6
            go_wp2
            obtain ⟨wz, hwz⟩ : ∃ W, ((((((World.setCell w7 ⟨ix, 0, none⟩ (.int .i64 S.r)).setCell ⟨ix, 1, none⟩ (.int .i64 S.c)).setCell ⟨ix, 2, none⟩ (.slice bs S.l.length ns)).setCell ⟨ix, 3, none⟩ (.int .i64 S.y)).setCell ⟨ix, 4, none⟩ (.int .i64 S.x)).setCell ⟨ix, 5, none⟩ (.bool S.h)).setCell ⟨ix, 6, none⟩ (.string S.t) = W := ⟨_, rfl⟩
            have HXZ : Hid (Blk wz ix 24 #[.int .i64 S.r, .int .i64 S.c, .slice bs S.l.length ns, .int .i64 S.y, .int .i64 S.x, .bool S.h, .string S.t]) := Lib.hid (by rw [← hwz]; exact ((((((HX.out.set 0 _).set 1 _).set 2 _).set 3 _).set 4 _).set 5 _).set 6 _)
            have hnew : w.heap.size ≤ ix := by have := HIX.out; omega
            have HCZ : Hid (Chg w wz nob) := Lib.hid (by
              rw [← hwz]
              exact ((((((HC.out.setCell (p := ⟨ix, 0, none⟩) (.inr hnew) _).setCell (p := ⟨ix, 1, none⟩) (.inr hnew) _).setCell (p := ⟨ix, 2, none⟩) (.inr hnew) _).setCell (p := ⟨ix, 3, none⟩) (.inr hnew) _).setCell (p := ⟨ix, 4, none⟩) (.inr hnew) _).setCell (p := ⟨ix, 5, none⟩) (.inr hnew) _).setCell (p := ⟨ix, 6, none⟩) (.inr hnew) _)
            have hcq : Chg w7 wz (fun k => k = ix) := by
              rw [← hwz]
              exact (((((((Chg.refl w7 (fun k => k = ix)).setCell (p := ⟨ix, 0, none⟩) (.inl rfl) _).setCell (p := ⟨ix, 1, none⟩) (.inl rfl) _).setCell (p := ⟨ix, 2, none⟩) (.inl rfl) _).setCell (p := ⟨ix, 3, none⟩) (.inl rfl) _).setCell (p := ⟨ix, 4, none⟩) (.inl rfl) _).setCell (p := ⟨ix, 5, none⟩) (.inl rfl) _).setCell (p := ⟨ix, 6, none⟩) (.inl rfl) _
            rw [hwz]
            clear hwz
            have z0 := HXZ.out.cell 0
            have z1 := HXZ.out.cell 1
            have z2 := HXZ.out.cell 2
            have z3 := HXZ.out.cell 3
            have z4 := HXZ.out.cell 4
            have z5 := HXZ.out.cell 5
            have z6 := HXZ.out.cell 6
            simp only [List.getElem?_toArray, List.getElem?_cons_zero, List.getElem?_cons_succ] at z0 z1 z2 z3 z4 z5 z6
            refine bodyPost_ret (v := .tuple #[scS S (.slice bs S.l.length ns), .int .i64 0]) (by simp [results, Tryz.results8, go_sem, z0, z1, z2, z3, z4, z5, z6]) rfl ?_
            exact ⟨HCZ.out, .some S bs ns HM1.out HAQ.out rfl (HS1.out.ofChg hcq (fun k hk e => HS1.out.1.ne HX.out (by decide) (by rwa [← e])))⟩
          · have HAQ : Hid (applyQ a d = none) := Lib.hid (by
              unfold applyQ
              rw [HPQ.out, Option.bind_some, if_neg (fun h => hdd (HDD.out.symm.trans h.2))])
            have HDE : Hid (decide (D = d) = false) := Lib.hid (decide_eq_false hdd)
            clear hdd
            go_wp2_with fail
            go_at_call 28
            refine (bequal_by HBY.out (HD.out.kept HC.out)).mono ?_
            rw [HDE.out]
            rintro e' xx ⟨rfl, rfl⟩
            have x0 := HX.out.cell 0
            have x1 := HX.out.cell 1
            have x2 := HX.out.cell 2
            have x3 := HX.out.cell 3
            have x4 := HX.out.cell 4
            have x5 := HX.out.cell 5
            have x6 := HX.out.cell 6
            simp only [List.getElem?_toArray, List.getElem?_cons_zero, List.getElem?_cons_succ] at x0 x1 x2 x3 x4 x5 x6
            have f0 := HX.out.free 0
            have f1 := HX.out.free 1
            have f2 := HX.out.free 2
            have f3 := HX.out.free 3
            have f4 := HX.out.free 4
            have f5 := HX.out.free 5
            have f6 := HX.out.free 6
            go_wp2
            obtain ⟨wz, hwz⟩ : ∃ W, ((((((World.setCell w7 ⟨ix, 0, none⟩ (.int .i64 0)).setCell ⟨ix, 1, none⟩ (.int .i64 0)).setCell ⟨ix, 2, none⟩ (.slice none 0 0)).setCell ⟨ix, 3, none⟩ (.int .i64 0)).setCell ⟨ix, 4, none⟩ (.int .i64 0)).setCell ⟨ix, 5, none⟩ (.bool false)).setCell ⟨ix, 6, none⟩ (.string ⟨#[]⟩) = W := ⟨_, rfl⟩
            have HXZ : Hid (Blk wz ix 24 #[.int .i64 0, .int .i64 0, .slice none 0 0, .int .i64 0, .int .i64 0, .bool false, .string ⟨#[]⟩]) := Lib.hid (by rw [← hwz]; exact ((((((HX.out.set 0 _).set 1 _).set 2 _).set 3 _).set 4 _).set 5 _).set 6 _)
            have hnew : w.heap.size ≤ ix := by have := HIX.out; omega
            have HCZ : Hid (Chg w wz nob) := Lib.hid (by
              rw [← hwz]
              exact ((((((HC.out.setCell (p := ⟨ix, 0, none⟩) (.inr hnew) _).setCell (p := ⟨ix, 1, none⟩) (.inr hnew) _).setCell (p := ⟨ix, 2, none⟩) (.inr hnew) _).setCell (p := ⟨ix, 3, none⟩) (.inr hnew) _).setCell (p := ⟨ix, 4, none⟩) (.inr hnew) _).setCell (p := ⟨ix, 5, none⟩) (.inr hnew) _).setCell (p := ⟨ix, 6, none⟩) (.inr hnew) _)
            have hcq : Chg w7 wz (fun k => k = ix) := by
              rw [← hwz]
              exact (((((((Chg.refl w7 (fun k => k = ix)).setCell (p := ⟨ix, 0, none⟩) (.inl rfl) _).setCell (p := ⟨ix, 1, none⟩) (.inl rfl) _).setCell (p := ⟨ix, 2, none⟩) (.inl rfl) _).setCell (p := ⟨ix, 3, none⟩) (.inl rfl) _).setCell (p := ⟨ix, 4, none⟩) (.inl rfl) _).setCell (p := ⟨ix, 5, none⟩) (.inl rfl) _).setCell (p := ⟨ix, 6, none⟩) (.inl rfl) _
            rw [hwz]
            clear hwz
            have z0 := HXZ.out.cell 0
            have z1 := HXZ.out.cell 1
            have z2 := HXZ.out.cell 2
            have z3 := HXZ.out.cell 3
            have z4 := HXZ.out.cell 4
            have z5 := HXZ.out.cell 5
            have z6 := HXZ.out.cell 6
            simp only [List.getElem?_toArray, List.getElem?_cons_zero, List.getElem?_cons_succ] at z0 z1 z2 z3 z4 z5 z6
            refine bodyPost_ret (v := .tuple #[scV 0 0 (.slice none 0 0) 0 0 false ⟨#[]⟩, .int .i64 2]) (by simp [results, Tryz.results8, go_sem, z0, z1, z2, z3, z4, z5, z6]) rfl ?_
            exact ⟨HCZ.out, .none HM1.out HAQ.out rfl⟩
end Go.Proofs.YtmbdpcamhkdkmaaGreatDoor
