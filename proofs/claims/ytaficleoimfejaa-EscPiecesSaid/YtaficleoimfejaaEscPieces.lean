/-
  Chapter 8: the walk of EscPieces.
-/
import Derived.Test.YtaficleoimfejaaEsc19
namespace Go.Proofs.Ytaficleoimfejaa
open Go.RowKit
set_option linter.unusedVariables false
set_option linter.unusedSimpArgs false

theorem newS_16 : Ps16 newS := fun ev hev => by simp [newS] at hev
set_option maxRecDepth 100000 in
set_option maxHeartbeats 16000000 in
theorem EscPieces_walk (a0 : Option Addr) (len0 cap0 : Nat) (l0 : List Int) (w : World)
    (hr0 : Rd w 1 (.slice a0 len0 cap0) len0 (l0.map (Value.int .i32))) (hl0 : l0.length = len0) (y0 : len0 * 4 ≤ 140737488351232) (w0 : ∀ x ∈ l0, -2147483648 ≤ x ∧ x ≤ 2147483647) :
    Calls Try.prog 6 #[.slice a0 len0 cap0] w fun e w' => e = .returned (.bool true) ∧ Chg w w' nob := by
  subst hl0
  have HR0 : Hid (Rd w 1 (.slice a0 l0.length cap0) l0.length (runesV l0)) := Lib.hid hr0
  clear hr0 w0 y0
  go_enter Try.func6, Try.ntmps6
  go_wp2_with fail
  go_at_call 7
  refine (efirst_any _).mono ?_
  rintro e wA ⟨rfl, hA⟩
  have HA := Lib.hid hA
  clear hA
  by_cases hl : l0.length ≤ 2000
  · have m1 : ¬ (2000 : Int) < (l0.length : Int) := by omega
    go_wp2_with fail
    go_at_call 8
    refine (h_new wA).mono ?_
    rintro e wB ⟨p, rfl, hP, hB, -⟩
    have HP := Lib.hid (hP.before HA.out)
    clear hP hB
    go_wp2_with fail
    go_at_call 8
    refine (h_new wB).mono ?_
    rintro e wC ⟨q, rfl, hQ, hC, hq⟩
    have HQ := Lib.hid (hQ.before HP.out.chg)
    have hpq : p < q := by
      have h1 := HP.out.pr.lt (k := p) rfl
      omega
    have HPC := Lib.hid (HP.out.kept hC)
    have HPQ := Lib.hid hpq
    clear hQ hC hq hpq HP
    go_wp2_with fail
    go_at_call 11
    refine (h_feed2 HPC.out _ l0 (HR0.out.kept HPC.out.chg (fun _ _ => id)) (fun h0 k hk hF => by have h1 := HR0.out.lt (by simpa [runesV] using h0) hk; have h2 := HPC.out.own k hF; omega) (by omega)).mono ?_
    rintro e wD ⟨va, Fp, Pa, Ra, rfl, hP2, hE2, hC2, hF2, hPa, hRa⟩
    have hsq := HQ.out.pr.lt (k := q) rfl
    have hpq := HPQ.out
    have hBB : BB w wD p q (outE (runS newS l0)) newS (0 + l0.length) 0 Fp (fun k => k = q) va (.slice none 0 0) (runS newS l0).out (runS newS (l0.take 0)).out Pa Ra nob nob :=
      ⟨hP2, HQ.out.apart hC2 (fun k hk e => by have e1 : k = q := hk; have e2 : k = p := e; omega) (fun k hk => HPC.out.own k hk), hE2, EVB.nil _, fun x hx => ⟨fun e => by
        have e' : x = q := e
        rcases hF2 x hx with h1 | h1
        · have : x = p := h1
          omega
        · omega, id⟩, fun x hx => by
        have h0 : (x = p ∨ wC.heap.size ≤ x) ∧ x < wD.heap.size := by
          rcases hx with hx | hx
          · exact ⟨(hPa x hx).1, (hPa x hx).2.2.1⟩
          · exact ⟨(hRa x hx).1, (hRa x hx).2.2⟩
        exact ⟨h0.2, fun e => by have e' : x = q := e; rcases h0.1 with h1 | h1 <;> omega, id⟩, fun x hx => hx.elim, fun x hx => hx.elim⟩
    have HBB := Lib.hid hBB
    obtain ⟨aa, ca, rfl, hca1, hca2⟩ := hE2.evs.len
    clear hP2 hE2 hC2 hF2 hPa hRa hBB hsq hpq HPC HQ
    generalize hol : (runS newS l0).out = OUT at *
    have hout : OUT.length ≤ l0.length := by rw [← hol]; have := (newS_ok.run l0).olen; omega
    have hout16 : ∀ ev ∈ OUT, ev.ps.length ≤ 16 := by rw [← hol]; exact ps16_run l0 newS newS_16
    have HOL := Lib.hid hol
    have HO16 := Lib.hid hout16
    clear hol hout16
    go_wp2
    go_loopw [6, 7] (fun bv i wr => ∃ k : Nat, k ≤ l0.length ∧ i = .int .i64 k ∧ ∃ Fq Pb Rb, Hid (BB w wr p q (outE (runS newS l0)) (outE (runS newS (l0.take k))) (0 + l0.length) k Fp Fq (.slice aa OUT.length ca) bv OUT (runS newS (l0.take k)).out Pa Ra Pb Rb))
      (fun _ i _ => l0.length - (intOf i).toNat)
    case atStart => exact ⟨0, Nat.zero_le _, rfl, _, _, _, HBB⟩
    case round =>
      obtain ⟨k, hk, rfl, Fq, Pb, Rb, HK⟩ := hrel
      clear HBB
      by_cases hkl : k < l0.length
      · have hkn : (k : Int) < (l0.length : Int) := by omega
        obtain ⟨g, o, rfl, hcx⟩ := (HR0.out.kept HK.out.hp.chg (fun _ _ => id)).cell (j := k) (u := .int .i32 (l0.getD k 0)) (by simp [runesV, List.getD, hkl])
        have hsn := runS_snoc newS (l0.take k) (l0.getD k 0)
        rw [← take_snoc hkl] at hsn
        have hto := take_out (runS newS (l0.take k)) (l0.getD k 0)
        rw [← hsn] at hto
        have hol := (newS_ok.run (l0.take k)).olen
        rw [List.length_take] at hol
        have hok := (newS_ok.run (l0.take (k + 1)))
        have hol2 := hok.olen
        rw [List.length_take] at hol2
        generalize l0.getD k 0 = c at *
        have HTO := Lib.hid hto
        have hs0 : ¬ (outE (runS newS (l0.take (k + 1)))).st < 0 := by have := hok.st0; simp [outE]; omega
        have hs7 : ¬ 7 < (outE (runS newS (l0.take (k + 1)))).st := by have := hok.st7; simp [outE]; omega
        clear hsn hto hok
        generalize hO2 : (runS newS (l0.take (k + 1))).out = O2 at *
        generalize hT2 : outE (runS newS (l0.take (k + 1))) = T2 at *
        have HO2 := Lib.hid hO2
        have HT2 := Lib.hid hT2
        clear hO2 hT2
        generalize (runS newS (l0.take k)).out = O1 at *
        generalize outE (runS newS (l0.take k)) = T1 at *
        obtain ⟨qb, hqb1, hqb2, hqb3, hqb4⟩ := HK.out.hb
        obtain ⟨ab, cb, rfl, hcb, hcbm, _, _⟩ := hqb2.form
        have hqbl : qb.length ≤ 2000 := by
          have : qb.length = O1.length := by rw [← hqb1, List.length_map]
          omega
        have HQ1 := Lib.hid hqb1
        have HQ2 := Lib.hid hqb2
        have HQ3 := Lib.hid hqb3
        have HQ4 := Lib.hid hqb4
        clear hqb1 hqb2 hqb3 hqb4
        have hlit := (Own.lit wr 21 #[.int .i32 c] (by simp)).rd
        have HK2 := Lib.hid (HK.out.kept ((Chg.refl wr nob).alloc (.cells #[.int .i32 c] 21)))
        have HQ2 := Lib.hid (HQ2.out.kept ((Chg.refl wr nob).alloc (.cells #[.int .i32 c] 21)) (fun _ _ => id))
        have HQ3 : Hid (∀ x ∈ qb, Rd (wr.alloc (.cells #[.int .i32 c] 21)) 1 x.2 x.1.ps.length (intI x.1.ps) ∧ ∀ k, blkOf x.2 k → Pb k) := Lib.hid (fun x hx => ⟨((HQ3.out x hx).1.alloc _), (HQ3.out x hx).2⟩)
        go_wp2_with fail
        go_at_call 11
        refine (h_feed2 HK2.out.hq _ [c] hlit (fun _ x hx => HK.out.hq.fresh hx) (by simp; omega)).mono ?_
        rw [show runS T1 [c] = takeS T1 c from rfl, HTO.out.2.symm]
        rintro e w2 ⟨v, Fq2, P, R, rfl, hq2, hE2, hC2, hF2, hP2, hR2⟩
        obtain ⟨qv, hv1, hv2, hv3, hv4⟩ := hE2
        have h1len : (takeS T1 c).out.length ≤ 2001 := by
          have h3 := congrArg List.length HTO.out.1
          rw [List.length_append] at h3
          omega
        have hqvl : qv.length ≤ 2001 := by
          have : qv.length = (takeS T1 c).out.length := by rw [← hv1, List.length_map]
          omega
        clear h1len
        have hBB3 := HK2.out.fed hq2 hC2 hF2
        have hQ2 := HQ2.out.kept hC2 (fun x hx => (HK.out.rq x (HQ4.out x hx)).2.1)
        have hQ3 : ∀ x ∈ qb, Rd w2 1 x.2 x.1.ps.length (intI x.1.ps) ∧ ∀ k, blkOf x.2 k → Pb k := fun x hx => ⟨(HQ3.out x hx).1.kept hC2 (fun y hy => (HK.out.bq y ((HQ3.out x hx).2 y hy)).2.1), (HQ3.out x hx).2⟩
        have hPx : ∀ x, P x → x < w2.heap.size ∧ ¬ Fq2 x ∧ ¬ Rb x := fun x hx => ⟨(hP2 x hx).2.2.1, (hP2 x hx).2.1, fun h => by
          rcases (hP2 x hx).1 with h1 | h1
          · exact (HK.out.rq x h).2.1 h1
          · have := (HK2.out.rq x h).1; omega⟩
        obtain ⟨av, cv, rfl, hcv, hcvm, hvn, hvs⟩ := hv2.form
        have hnews : ∀ a, av = some a → ∀ j u, (qv.flatMap evc)[j]? = some u → w2.cell? (a.add j) = some u := fun a ha j u hu => by
          obtain ⟨g', rfl⟩ := hvs a ha
          subst ha
          rw [Addr.add_lit, Nat.zero_add]
          have hj := (List.getElem?_eq_some_iff.1 hu).1
          have hl7 : (qv.flatMap evc).length = qv.length * 7 := hv2.1
          rw [hv2.cellAt j (by omega), hu]
        have hone : ∀ u ∈ qv.flatMap evc, u.oneCell' = true := fun u hu => by
          obtain ⟨x, hx, hux⟩ := List.mem_flatMap.1 hu
          obtain ⟨px, _, hpx, _⟩ := (hv3 x hx).1.form
          simp only [evc, List.mem_cons, List.not_mem_nil, or_false] at hux
          rcases hux with h | h | h | h | h | h | h <;> (subst h; first | rfl | (rw [hpx]; rfl))
        have HB3 := Lib.hid hBB3
        have HQ2 := Lib.hid hQ2
        have HQ3 := Lib.hid hQ3
        have HV3 := Lib.hid hv3
        have HV1 := Lib.hid hv1
        have HPX := Lib.hid hPx
        have HNW := Lib.hid hnews
        have HON := Lib.hid hone
        have HVN := Lib.hid hvn
        have hl7 : (qv.flatMap evc).length = qv.length * 7 := hv2.1
        have HL7 := Lib.hid hl7
        clear hBB3 hQ2 hQ3 hv3 hv1 hPx hnews hone hvn hvs hv2 hv4 hq2 hC2 hF2 hP2 hR2 hcx hl7 hlit
        go_wp2_with (at_builtin; refine wpList_app rfl (.tmp 33) (.tmp 40) 33 rfl 41 (.agg #[.int .i64 0, .int .i32 0, .slice none 0 0, .int .i32 0, .int .i32 0, .int .i32 0, .string .empty]) 7 72 i_event u_events rfl (by decide) (.slice ab qb.length cb) qb.length _ rfl HQ2.out av qv.length cv (qv.flatMap evc) rfl HVN.out HL7.out HNW.out HON.out (by unfold maxLen; omega) (by omega) ?_)
        intro v3 w3 ho3 hch3 hfo3
        have hB4 := HB3.out.push HQ1.out HQ3.out HV1.out HV3.out HQ4.out HPX.out ho3 hch3 hfo3
        obtain ⟨a3, c3, rfl, _⟩ := ho3.form
        rw [← HTO.out.1] at hB4
        have HB4 := Lib.hid hB4
        clear hB4 ho3 hch3 hfo3
        go_wp2_with (first | (go_at_call 13; refine (state_any HB4.out.hq.pr).mono ?_; rintro e w' ⟨rfl, rfl⟩))
        go_roundw
        case rel => exact ⟨k + 1, by omega, by go_num, Fq2, _, _, by rw [HT2.out, HO2.out]; exact HB4⟩
        case measure => simp [intOf]; omega
      · obtain rfl : k = l0.length := by omega
        rw [List.take_length, HOL.out] at HK
        go_wp2_with fail
        go_at_call 16
        refine (evs_same _ _ _ OUT _ _ HK.out.ha.evs HK.out.hb.evs (by omega) (fun ev hev => by have := HO16.out ev hev; omega)).mono ?_
        rintro e w2 ⟨rfl, hc2⟩
        have HK2 := Lib.hid (HK.out.kept hc2)
        have hbl := HK2.out.hb.evs.len
        obtain ⟨ab, cb, rfl, _, _⟩ := hbl
        clear hc2 HK
        have hst : ∃ S : PS, outE (runS newS l0) = S ∧ S.out = [] := ⟨_, rfl, rfl⟩
        obtain ⟨S, hS, hSo⟩ := hst
        rw [hS] at HK2
        have hol : ¬ (l0.length : Int) < (OUT.length : Int) := by omega
        have HS := Lib.hid hSo
        clear hS hSo
        have hPH := HK2.out.hp
        have HPH := Lib.hid hPH
        have HQH := Lib.hid HK2.out.hq
        clear hPH
        go_wp2_with fail
        go_at_call 13
        refine (state_any HPH.out.pr).mono ?_
        rintro e w' ⟨rfl, rfl⟩
        go_wp2_with fail
        go_at_call 13
        refine (state_any HQH.out.pr).mono ?_
        rintro e w' ⟨rfl, rfl⟩
        clear HK2 HQH
        have e24 : takeS S 24 = goesS S 0 := rfl
        have e120 : takeS (outE (goesS S 0)) 120 = tellS (outE (goesS S 0)) (ev0 1 120 0 0) := rfl
        have HE24 := Lib.hid (show runS S [24] = goesS S 0 from e24)
        have HE120 := Lib.hid (show runS (outE (goesS S 0)) [120] = tellS (outE (goesS S 0)) (ev0 1 120 0 0) from e120)
        have HGO := Lib.hid (show (goesS S 0).out = [] from HS.out)
        clear e24 e120
        go_wp2_with fail
        go_at_call 11
        have hlit := (Own.lit w' 21 #[.int .i32 24] (by simp)).rd
        refine (h_feed (HPH.out.kept ((Chg.refl w' nob).alloc _)) _ [24] hlit (fun _ x hx => HPH.out.fresh hx) (by simp; omega)).mono ?_
        rw [HE24.out, HGO.out]
        rintro e w5 ⟨v5, F5, D5, rfl, hP5, hE5, -, -, -⟩
        obtain ⟨a5, c5, rfl, _, _⟩ := hE5.len
        have HP5 := Lib.hid hP5
        clear hP5 hE5 hlit HPH
        go_wp2_with fail
        go_at_call 11
        have hlit := (Own.lit w5 21 #[.int .i32 120] (by simp)).rd
        refine (h_feed (HP5.out.kept ((Chg.refl w5 nob).alloc _)) _ [120] hlit (fun _ x hx => HP5.out.fresh hx) (by simp; omega)).mono ?_
        rw [HE120.out]
        rintro e w6 ⟨v6, F6, D6, rfl, hP6, hE6, -, -, -⟩
        have HP6 := Lib.hid hP6
        have HE6 := Lib.hid (show EVS w6 v6 [ev0 1 120 0 0] D6 from hE6)
        clear hP6 hE6 hlit HP5
        obtain ⟨g6, cap6, pv6, rfl, _, _, _, _, _⟩ := HE6.out.at (j := 0) rfl
        go_wp2_with fail
        go_at_call 7
        refine (efirst_any _).mono ?_
        rintro e w7 ⟨rfl, h7⟩
        obtain ⟨g7, cap7, pv7, hv7, _, _, _, _, hcell⟩ := (HE6.out.kept h7 (fun _ _ => id)).at (j := 0) rfl
        cases hv7
        have z0 := hcell 0 (by omega)
        have z1 := hcell 1 (by omega)
        simp only [evc, ev0, List.getElem?_cons_zero, List.getElem?_cons_succ, Nat.zero_mul, Nat.zero_add] at z0 z1
        have HC7 := Lib.hid (HP6.out.chg.trans h7 (fun _ _ h => h))
        clear h7 hcell HP6 HE6
        go_wp2
        go_ret
        exact ⟨rfl, HC7.out⟩
  · have m1 : (2000 : Int) < (l0.length : Int) := by omega
    go_wp2_with fail
    go_at_call 7
    refine (efirst_any _).mono ?_
    rintro e wC ⟨rfl, hC⟩
    go_wp2
    go_ret
    exact ⟨rfl, HA.out.trans hC fun _ _ h => h⟩
end Go.Proofs.Ytaficleoimfejaa
