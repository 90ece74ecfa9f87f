/-
  Chapter 13: KeyShort.
-/
import Derived.Test.YtpggonlijnfaeaaDoorShort2
namespace Go.Proofs.YtpggonlijnfaeaaDoor
open Go.RowKit
set_option linter.unusedVariables false
set_option linter.unusedSimpArgs false

/-- What stays behind a call that changes nothing of ours. -/
structure SK (w0 w : World) (bc bs : Nat) (r0 f0 g0 b0 w0' : Int) (scr : Array Value) (v : Value) (m : Nat) (l : List Ce) : Prop where
  chg : Chg w0 w nob
  cel : Blk w bc 36 #[.int .i32 r0, .int .i64 f0, .int .i64 g0, .int .i64 b0, .int .i64 w0']
  scr : Blk w bs 24 scr
  own : Own w 36 5 v m (cellsV l)
  new : ∀ k, blkOf v k → w0.heap.size ≤ k ∧ k ≠ bc
theorem SK.kept {w0 w w' : World} {bc bs : Nat} {r0 f0 g0 b0 w0' : Int} {scr : Array Value} {v : Value} {m : Nat} {l : List Ce} (h : SK w0 w bc bs r0 f0 g0 b0 w0' scr v m l) (hc : Chg w w' nob) : SK w0 w' bc bs r0 f0 g0 b0 w0' scr v m l :=
  ⟨h.chg.trans hc (fun _ _ h => h), h.cel.kept hc id, h.scr.kept hc id, h.own.kept hc (fun _ _ => id), h.new⟩
section
variable {w0 w : World} {bc bs : Nat} {r0 f0 g0 b0 w0' : Int} {scr : Array Value} {g m cap : Nat} {l : List Ce}
theorem SK.row (h : SK w0 w bc bs r0 f0 g0 b0 w0' scr (.slice (some ⟨g, 0, none⟩) m cap) m l) {w' : World} {l' : List Ce} (hc : Chg w w' (fun k => k = g)) (ho : Own w' 36 5 (.slice (some ⟨g, 0, none⟩) m cap) m (cellsV l')) : SK w0 w' bc bs r0 f0 g0 b0 w0' scr (.slice (some ⟨g, 0, none⟩) m cap) m l' := by
  obtain ⟨hg, hgc⟩ := h.new g rfl
  exact ⟨h.chg.trans hc (fun i hi e => by omega), h.cel.kept hc (fun e => hgc e.symm), h.scr.kept hc (fun e => h.own.ne h.scr (by decide) (by subst e; rfl)), ho, h.new⟩
theorem SK.store (h : SK w0 w bc bs r0 f0 g0 b0 w0' scr (.slice (some ⟨g, 0, none⟩) m cap) m l) {k : Nat} (hk : k < l.length) (c : Ce) : SK w0 (w.setCells g (k * 5) c.cs) bc bs r0 f0 g0 b0 w0' scr (.slice (some ⟨g, 0, none⟩) m cap) m (l.set k c) ∧ Chg w (w.setCells g (k * 5) c.cs) (fun k => k = g) := by
  have hc : Chg w (w.setCells g (k * 5) c.cs) (fun k => k = g) := Chg.cells w g _ _
  have ho := Own.setCells c.cs (k * 5) h.own
  rw [putL_cells l k c hk] at ho
  exact ⟨h.row hc ho, hc⟩
theorem SK.flag (h : SK w0 w bc bs r0 f0 g0 b0 w0' scr (.slice (some ⟨g, 0, none⟩) m cap) m l) {k : Nat} {c : Ce} (hk : l[k]? = some c) (f : Int) : SK w0 (w.setCell ⟨g, k * 5 + 1, none⟩ (.int .i64 f)) bc bs r0 f0 g0 b0 w0' scr (.slice (some ⟨g, 0, none⟩) m cap) m (l.set k { c with f := f }) ∧ Chg w (w.setCell ⟨g, k * 5 + 1, none⟩ (.int .i64 f)) (fun k => k = g) := by
  have hc : Chg w (w.setCell ⟨g, k * 5 + 1, none⟩ (.int .i64 f)) (fun k => k = g) := Chg.setCell (F := fun k => k = g) (p := ⟨g, k * 5 + 1, none⟩) (Chg.refl w _) (.inl rfl) _
  have ho := Own.setCells [.int .i64 f] (k * 5 + 1) h.own
  have e : putL (cellsV l) (k * 5 + 1) [.int .i64 f] = (cellsV l).set (k * 5 + 1) (.int .i64 f) := rfl
  rw [e, set_flag l k c f hk] at ho
  exact ⟨h.row hc ho, hc⟩
theorem SK.bytes (h : SK w0 w bc bs r0 f0 g0 b0 w0' scr (.slice (some ⟨g, 0, none⟩) m cap) m l) {v : Value} {n : Nat} {xs : List Value} (hb : Own w 5 1 v n xs) {w' : World} (hc : Chg w w' (fun k => k = g)) : Own w' 5 1 v n xs :=
  hb.kept hc (fun k hk e => by
    subst e
    obtain ⟨c1, h1⟩ := hb.row hk
    obtain ⟨c2, h2⟩ := h.own.row (k := k) rfl
    exact absurd (h1.inj h2).1 (by decide))
end
set_option maxRecDepth 100000 in
set_option maxHeartbeats 16000000 in
theorem KeyShort_any (w : World) (a0 a1 a3 : Int) (c : Ce) (hb0 : -9223372036854775808 ≤ a0 ∧ a0 ≤ 9223372036854775807) (hb1 : -9223372036854775808 ≤ a1 ∧ a1 ≤ 9223372036854775807) (hb3 : -9223372036854775808 ≤ a3 ∧ a3 ≤ 9223372036854775807) (ht : Tab w) :
    Calls Tryd.prog 4 #[.int .i64 a0, .int .i64 a1, c.val, .int .i64 a3] w fun e w' => e = .returned (.bool true) ∧ Chg w w' nob := by
  have HT := Lib.hid ht
  have HCM : Hid (c.may = true → c.w = 0 → Small c) := Lib.hid (fun h1 h2 => small_of_may h1 h2)
  obtain ⟨r0, f0, g0, b0, w0, HEQ⟩ : ∃ r0 f0 g0 b0 w0, Hid (c = ⟨r0, f0, g0, b0, w0⟩) := ⟨c.r, c.f, c.g, c.b, c.w, rfl⟩
  have hcv : c.val = .agg #[.int .i32 r0, .int .i64 f0, .int .i64 g0, .int .i64 b0, .int .i64 w0] := by rw [HEQ.out]; rfl
  rw [hcv]
  have hbk := Blk.new w 36 #[.int .i32 r0, .int .i64 f0, .int .i64 g0, .int .i64 b0, .int .i64 w0]
  have hck : Chg w (w.alloc (.cells #[.int .i32 r0, .int .i64 f0, .int .i64 g0, .int .i64 b0, .int .i64 w0] 36)) nob := (Chg.refl w nob).alloc _
  have HBK := Lib.hid hbk
  have HCK := Lib.hid hck
  clear ht hcv hbk hck
  go_enter Tryd.func4, Tryd.ntmps4
  go_wp2_with fail
  go_at_call 5
  refine (kfirst_any _ (HT.out.kept HCK.out)).mono ?_
  rintro e w1 ⟨rfl, hc1⟩
  have HB1 := Lib.hid (HBK.out.kept hc1 id)
  have HC1 : Hid (Chg w w1 nob) := Lib.hid (HCK.out.trans hc1 (fun _ _ h => h))
  clear hc1 HBK HCK
  by_cases hf : 1 ≤ a0 ∧ a0 ≤ 60 ∧ 1 ≤ a1 ∧ a1 ≤ 200
  · obtain ⟨h1, h2, h3, h4⟩ := hf
    obtain ⟨rn, rfl⟩ : ∃ rn : Nat, a0 = rn := ⟨a0.toNat, by omega⟩
    obtain ⟨cn, rfl⟩ : ∃ cn : Nat, a1 = cn := ⟨a1.toNat, by omega⟩
    have hfit : 1 ≤ rn ∧ rn ≤ 60 ∧ 1 ≤ cn ∧ cn ≤ 200 := by omega
    have HF := Lib.hid hfit
    have hm1 : rn * cn ≤ 60 * 200 := Nat.mul_le_mul (by omega) (by omega)
    have hm2 : 1 * 1 ≤ rn * cn := Nat.mul_le_mul (by omega) (by omega)
    have hbl := blank_ok w1 rn cn hfit
    obtain ⟨m, hm⟩ : ∃ m, rn * cn = m := ⟨_, rfl⟩
    have hmm : (rn : Int) * (cn : Int) = (m : Int) := by rw [← hm]; simp
    have hw : IntKind.i64.wrap ((rn : Int) * (cn : Int)) = (m : Int) := by rw [hmm]; simp only [IntKind.wrap, IntKind.bits, IntKind.signed]; simp; omega
    rw [hm] at hbl hm1 hm2
    have HM := Lib.hid hm
    have HBL := Lib.hid hbl
    clear hm hmm hbl hfit
    go_wp2_with fail
    go_at_call 12
    refine HBL.out.mono ?_
    rintro e w2 ⟨v, rfl, ho, hc2, hf2⟩
    clear HBL
    obtain ⟨ao, cap, rfl, -⟩ := ho.form
    obtain ⟨g, rfl, hcap, -⟩ := own_cells ho (by omega)
    have hsz2 := hc2.size
    have HC2 : Hid (Chg w w2 nob) := Lib.hid (HC1.out.trans hc2 (fun _ _ h => h))
    have hgw : w1.heap.size ≤ g := hf2 g rfl
    have hlt1 := HB1.out.lt
    obtain ⟨ws, hws⟩ : ∃ ws, w2.alloc (.cells #[.int .i64 rn, .int .i64 cn, .slice (some ⟨g, 0, none⟩) m cap, .int .i64 0, .int .i64 0, .bool false, .string ByteArray.empty] 24) = ws := ⟨_, rfl⟩
    have HS : Hid (SK w ws w.heap.size w2.heap.size r0 f0 g0 b0 w0 #[.int .i64 rn, .int .i64 cn, .slice (some ⟨g, 0, none⟩) m cap, .int .i64 0, .int .i64 0, .bool false, .string ByteArray.empty] (.slice (some ⟨g, 0, none⟩) m cap) m (List.replicate m .blank)) := Lib.hid (by
      rw [← hws]
      have hca := (Chg.refl w2 nob).alloc (.cells #[.int .i64 rn, .int .i64 cn, .slice (some ⟨g, 0, none⟩) m cap, .int .i64 0, .int .i64 0, .bool false, .string ByteArray.empty] 24)
      exact ⟨HC2.out.trans hca (fun _ _ h => h), (HB1.out.kept hc2 id).kept hca id, Blk.new w2 _ _, ho.kept hca (fun _ _ => id), fun k hk => by cases hk; exact ⟨Nat.le_trans HC1.out.size hgw, by (show g ≠ w.heap.size); omega⟩⟩)
    clear hc2 hf2 ho HC2 HB1 HC1 hsz2 hgw hlt1
    obtain ⟨km, hkm⟩ : ∃ km, Ce.may ⟨r0, f0, g0, b0, w0⟩ = km := ⟨_, rfl⟩
    have HKM := Lib.hid hkm
    clear hkm
    have hcl := HS.out.cel
    have u0 := hcl.cell 0
    have u1 := hcl.cell 1
    have u2 := hcl.cell 2
    have u3 := hcl.cell 3
    have u4 := hcl.cell 4
    simp only [List.getElem?_toArray, List.getElem?_cons_zero, List.getElem?_cons_succ] at u0 u1 u2 u3 u4
    have hsc := HS.out.scr
    have z0 := hsc.cell 0
    have z1 := hsc.cell 1
    have z2 := hsc.cell 2
    have z3 := hsc.cell 3
    have z4 := hsc.cell 4
    have z5 := hsc.cell 5
    have z6 := hsc.cell 6
    simp only [List.getElem?_toArray, List.getElem?_cons_zero, List.getElem?_cons_succ] at z0 z1 z2 z3 z4 z5 z6
    clear hcl hsc
    go_wp2_with fail
    go_at_call 13
    clear hws
    refine (maycell_any ws ⟨r0, f0, g0, b0, w0⟩ (HT.out.kept HS.out.chg)).mono ?_
    rw [HKM.out]
    rintro e w3 ⟨rfl, hc3⟩
    have HS3 := Lib.hid (HS.out.kept hc3)
    clear hc3 HS
    clear u0 u1 u2 u3 u4 z0 z1 z2 z3 z4 z5 z6
    have hcl := HS3.out.cel
    have u0 := hcl.cell 0
    have u1 := hcl.cell 1
    have u2 := hcl.cell 2
    have u3 := hcl.cell 3
    have u4 := hcl.cell 4
    simp only [List.getElem?_toArray, List.getElem?_cons_zero, List.getElem?_cons_succ] at u0 u1 u2 u3 u4
    have hsc := HS3.out.scr
    have z0 := hsc.cell 0
    have z1 := hsc.cell 1
    have z2 := hsc.cell 2
    have z3 := hsc.cell 3
    have z4 := hsc.cell 4
    have z5 := hsc.cell 5
    have z6 := hsc.cell 6
    simp only [List.getElem?_toArray, List.getElem?_cons_zero, List.getElem?_cons_succ] at z0 z1 z2 z3 z4 z5 z6
    clear hcl hsc
    cases km
    · skip
      go_wp2_with fail
      go_at_call 5
      refine (kfirst_any _ (HT.out.kept HS3.out.chg)).mono ?_
      rintro e w9 ⟨rfl, hc9⟩
      have HS9 := Lib.hid (HS3.out.kept hc9)
      clear hc9
      clear u0 u1 u2 u3 u4 z0 z1 z2 z3 z4 z5 z6
      go_wp2
      go_ret
      exact ⟨rfl, HS9.out.chg⟩
    · by_cases hw0 : w0 = 0
      · by_cases ha3 : a3 < 0
        · skip
          go_wp2_with fail
          go_at_call 5
          refine (kfirst_any _ (HT.out.kept HS3.out.chg)).mono ?_
          rintro e w9 ⟨rfl, hc9⟩
          have HS9 := Lib.hid (HS3.out.kept hc9)
          clear hc9
          clear u0 u1 u2 u3 u4 z0 z1 z2 z3 z4 z5 z6
          go_wp2
          go_ret
          exact ⟨rfl, HS9.out.chg⟩
        · obtain ⟨at_, rfl⟩ : ∃ n : Nat, a3 = n := ⟨a3.toNat, by omega⟩
          subst hw0
          have hsm : Small c := HCM.out (by rw [HEQ.out]; exact HKM.out) (by rw [HEQ.out])
          have HSM := Lib.hid hsm
          clear hsm HCM
          have hmz : ((m : Int) == 0) = false := by simp; omega
          have hatd : ¬ ((at_ : Nat) : Int) < 0 := ha3
          have hrl : ∀ c : Ce, (List.replicate m c).length = m := fun c => List.length_replicate
          have HRL := Lib.hid hrl
          have hmb : ∀ l : List Ce, l.length = m → (∀ c ∈ l, c.may = true ∧ c.w = 0) → mayS rn cn l 0 0 ByteArray.empty = true := fun l hl hc => may_plain HF.out (by rw [HM.out]; exact hl) hc
          have HMB := Lib.hid hmb
          clear hrl hmb
          go_wp2_with fail
          go_at_call 7
          refine (kenc_any w3 rn cn 0 0 false ByteArray.empty _ (List.replicate m .blank) (by rw [HRL.out]; exact HS3.out.own.rd) (by rw [HRL.out]; omega) (by decide) (HT.out.kept HS3.out.chg)).mono ?_
          rw [HMB.out _ (HRL.out _) (fun d hd => by rw [List.eq_of_mem_replicate hd]; decide), if_pos rfl]
          obtain ⟨L1, hL1⟩ : ∃ L1, keyL rn cn (List.replicate m .blank) 0 0 false ByteArray.empty = L1 := ⟨_, rfl⟩
          rw [hL1]
          have HL1 := Lib.hid hL1
          clear hL1
          rintro e w4 ⟨v4, rfl, hb4⟩
          have HS4 := Lib.hid (HS3.out.kept hb4.2.1)
          have HV4 := Lib.hid hb4.1
          clear hb4 HS3
          clear u0 u1 u2 u3 u4 z0 z1 z2 z3 z4 z5 z6
          obtain ⟨a4, c4, rfl, -⟩ := HV4.out.form
          rw [show encE true = 0 from rfl]
          have hcl := HS4.out.cel
          have u0 := hcl.cell 0
          have u1 := hcl.cell 1
          have u2 := hcl.cell 2
          have u3 := hcl.cell 3
          have u4 := hcl.cell 4
          simp only [List.getElem?_toArray, List.getElem?_cons_zero, List.getElem?_cons_succ] at u0 u1 u2 u3 u4
          have hsc := HS4.out.scr
          have z0 := hsc.cell 0
          have z1 := hsc.cell 1
          have z2 := hsc.cell 2
          have z3 := hsc.cell 3
          have z4 := hsc.cell 4
          have z5 := hsc.cell 5
          have z6 := hsc.cell 6
          simp only [List.getElem?_toArray, List.getElem?_cons_zero, List.getElem?_cons_succ] at z0 z1 z2 z3 z4 z5 z6
          clear hcl hsc
          go_wp2_with fail
          clear u0 u1 u2 u3 u4 z0 z1 z2 z3 z4 z5 z6
          obtain ⟨cc, hcc⟩ : ∃ cc : Ce, cc = ⟨r0, f0, g0, b0, 0⟩ := ⟨_, rfl⟩
          have HCE := Lib.hid hcc
          have hh0 : halfL m 0 cc = List.replicate m .blank := by simp [halfL]
          have HS5 : Hid (SK w w4 w.heap.size w2.heap.size r0 f0 g0 b0 0 #[.int .i64 rn, .int .i64 cn, .slice (some ⟨g, 0, none⟩) m cap, .int .i64 0, .int .i64 0, .bool false, .string ByteArray.empty] (.slice (some ⟨g, 0, none⟩) m cap) m (halfL m 0 cc)) := by rw [hh0]; exact HS4
          clear hcc hh0 HS4
          go_loopw [13] (fun iv wr => ∃ i : Nat, i ≤ m ∧ iv = .int .i64 i ∧ Hid (SK w wr w.heap.size w2.heap.size r0 f0 g0 b0 0 #[.int .i64 rn, .int .i64 cn, .slice (some ⟨g, 0, none⟩) m cap, .int .i64 0, .int .i64 0, .bool false, .string ByteArray.empty] (.slice (some ⟨g, 0, none⟩) m cap) m (halfL m i cc)) ∧ Hid (Own wr 5 1 (.slice a4 L1.length c4) L1.length (bytesV L1))) (fun iv _ => m - (intOf iv).toNat)
          case atStart => exact ⟨0, Nat.zero_le _, rfl, HS5, HV4⟩
          case round =>
            obtain ⟨i, him, rfl, HSR, HVR⟩ := hrel
            clear HS5 HV4
            by_cases hi : i < m
            · have hii : (i : Int) < (m : Int) := by omega
              have hi0 : (0 : Int) ≤ (i : Int) := by omega
              have hcl := HSR.out.cel
              have u0 := hcl.cell 0
              have u1 := hcl.cell 1
              have u2 := hcl.cell 2
              have u3 := hcl.cell 3
              have u4 := hcl.cell 4
              simp only [List.getElem?_toArray, List.getElem?_cons_zero, List.getElem?_cons_succ] at u0 u1 u2 u3 u4
              have hsc := HSR.out.scr
              have z0 := hsc.cell 0
              have z1 := hsc.cell 1
              have z2 := hsc.cell 2
              have z3 := hsc.cell 3
              have z4 := hsc.cell 4
              have z5 := hsc.cell 5
              have z6 := hsc.cell 6
              simp only [List.getElem?_toArray, List.getElem?_cons_zero, List.getElem?_cons_succ] at z0 z1 z2 z3 z4 z5 z6
              clear hcl hsc
              obtain ⟨g', hge, -, ⟨cur, hbc⟩, hll, hcx⟩ := own_cells HSR.out.own (by omega)
              cases hge
              obtain ⟨y0, y1, y2, y3, y4⟩ := hcx i .blank (half_at cc hi)
              have fr := fun j => hbc.free (i * 5 + j)
              have x0 := fr 0
              have x1 := fr 1
              have x2 := fr 2
              have x3 := fr 3
              have x4 := fr 4
              rw [Nat.add_zero] at x0
              have HST := Lib.hid (HSR.out.store (k := i) (by rw [hll]; exact hi) cc)
              clear hcx hbc fr hll
              go_wp2_with fail
              have hce : wr.setCells g (i * 5) cc.cs = wr.setCells g (i * 5) (Ce.cs ⟨r0, f0, g0, b0, 0⟩) := by rw [HCE.out]
              refine ⟨⟨i + 1, by omega, by go_num, Lib.hid ?_, Lib.hid ?_⟩, by simp [intOf]; omega⟩
              · have h := HST.out.1
                rw [half_step cc hi, hce] at h
                exact h
              · have h := HSR.out.bytes HVR.out HST.out.2
                rw [hce] at h
                exact h
            · obtain rfl : i = m := by omega
              have hhm : halfL i i cc = List.replicate i cc := by simp [halfL]
              rw [hhm] at HSR
              have hcm : cc.may = true ∧ cc.w = 0 := by rw [HCE.out]; exact ⟨HKM.out, rfl⟩
              have HCCM := Lib.hid hcm
              clear hhm hcm
              have hcl := HSR.out.cel
              have u0 := hcl.cell 0
              have u1 := hcl.cell 1
              have u2 := hcl.cell 2
              have u3 := hcl.cell 3
              have u4 := hcl.cell 4
              simp only [List.getElem?_toArray, List.getElem?_cons_zero, List.getElem?_cons_succ] at u0 u1 u2 u3 u4
              have hsc := HSR.out.scr
              have z0 := hsc.cell 0
              have z1 := hsc.cell 1
              have z2 := hsc.cell 2
              have z3 := hsc.cell 3
              have z4 := hsc.cell 4
              have z5 := hsc.cell 5
              have z6 := hsc.cell 6
              simp only [List.getElem?_toArray, List.getElem?_cons_zero, List.getElem?_cons_succ] at z0 z1 z2 z3 z4 z5 z6
              clear hcl hsc
              go_wp2_with fail
              go_at_call 7
              refine (kenc_any wr rn cn 0 0 false ByteArray.empty _ (List.replicate i cc) (by rw [HRL.out]; exact HSR.out.own.rd) (by rw [HRL.out]; omega) (by decide) (HT.out.kept HSR.out.chg)).mono ?_
              rw [HMB.out _ (HRL.out _) (fun d hd => by rw [List.eq_of_mem_replicate hd]; exact HCCM.out), if_pos rfl]
              obtain ⟨L2, hL2⟩ : ∃ L2, keyL rn cn (List.replicate i cc) 0 0 false ByteArray.empty = L2 := ⟨_, rfl⟩
              rw [hL2]
              have HL2 := Lib.hid hL2
              clear hL2
              rintro e w5 ⟨v5, rfl, hb5⟩
              have HS5 := Lib.hid (HSR.out.kept hb5.2.1)
              have HV5 := Lib.hid hb5.1
              have HV5' := Lib.hid (HVR.out.kept hb5.2.1 (fun _ _ => id))
              clear hb5 HSR HVR
              clear u0 u1 u2 u3 u4 z0 z1 z2 z3 z4 z5 z6
              obtain ⟨a5, c5, rfl, -⟩ := HV5.out.form
              rw [show encE true = 0 from rfl]
              obtain ⟨k, hk⟩ : ∃ k, at_ % i = k := ⟨_, rfl⟩
              have hki : k < i := by rw [← hk]; exact Nat.mod_lt _ (by omega)
              have hrem : ((at_ : Nat) : Int) % (i : Int) = (k : Int) := by rw [← hk]; omega
              have hrem2 : Int.tmod ((at_ : Nat) : Int) (i : Int) = (k : Int) := by rw [Int.tmod_eq_emod_of_nonneg (by omega)]; exact hrem
              have hkii : (k : Int) < (i : Int) := by omega
              have hk0 : (0 : Int) ≤ (k : Int) := by omega
              have hi0 : ¬ i = 0 := by omega
              obtain ⟨f1, hx⟩ : ∃ f1, bits .xor .i64 f0 2 = f1 := ⟨_, rfl⟩
              obtain ⟨g', hge, -, ⟨cur, hbc⟩, hll, hcx⟩ := own_cells HS5.out.own (by omega)
              cases hge
              have hkc : (List.replicate i cc)[k]? = some cc := by rw [List.getElem?_replicate, if_pos hki]
              obtain ⟨-, y1, -, -, -⟩ := hcx k cc hkc
              have x1 := hbc.free (k * 5 + 1)
              have hst := HS5.out.flag hkc f1
              have htn : { cc with f := f1 } = cc.turn := by rw [HCE.out, ← hx]; rfl
              rw [htn, off_set cc cc.turn hki] at hst
              have HST := Lib.hid hst
              have HSC : Hid (Small cc) := Lib.hid (by rw [HCE.out, ← HEQ.out]; exact HSM.out)
              obtain ⟨w6, hw6⟩ : ∃ w6, w5.setCell ⟨g, k * 5 + 1, none⟩ (.int .i64 f1) = w6 := ⟨_, rfl⟩
              have hs6 := HST.out.1
              have hc6 := HST.out.2
              rw [hw6] at hs6 hc6
              have HS6 := Lib.hid hs6
              have HVA := Lib.hid (HS5.out.bytes HV5'.out hc6)
              have HVB := Lib.hid (HS5.out.bytes HV5.out hc6)
              clear hk hcx hbc hll hkc hst htn hs6 hc6 HST
              have hcl := HS5.out.cel
              have u0 := hcl.cell 0
              have u1 := hcl.cell 1
              have u2 := hcl.cell 2
              have u3 := hcl.cell 3
              have u4 := hcl.cell 4
              simp only [List.getElem?_toArray, List.getElem?_cons_zero, List.getElem?_cons_succ] at u0 u1 u2 u3 u4
              have hsc := HS5.out.scr
              have z0 := hsc.cell 0
              have z1 := hsc.cell 1
              have z2 := hsc.cell 2
              have z3 := hsc.cell 3
              have z4 := hsc.cell 4
              have z5 := hsc.cell 5
              have z6 := hsc.cell 6
              simp only [List.getElem?_toArray, List.getElem?_cons_zero, List.getElem?_cons_succ] at z0 z1 z2 z3 z4 z5 z6
              clear hcl hsc
              have hsc := HS6.out.scr
              have p0 := hsc.cell 0
              have p1 := hsc.cell 1
              have p2 := hsc.cell 2
              have p3 := hsc.cell 3
              have p4 := hsc.cell 4
              have p5 := hsc.cell 5
              have p6 := hsc.cell 6
              simp only [List.getElem?_toArray, List.getElem?_cons_zero, List.getElem?_cons_succ] at p0 p1 p2 p3 p4 p5 p6
              clear hsc
              go_wp2_with fail
              go_at_call 7
              clear u0 u1 u2 u3 u4 z0 z1 z2 z3 z4 z5 z6
              clear hw6 HS5 HV5 HV5' y1 x1 hx p0 p1 p2 p3 p4 p5 p6 hrem hrem2
              have hlo : (oneOff i k cc cc.turn).length = i := by simp [oneOff]; omega
              refine (kenc_any w6 rn cn 0 0 false ByteArray.empty _ (oneOff i k cc cc.turn) (by rw [hlo]; exact HS6.out.own.rd) (by rw [hlo]; omega) (by decide) (HT.out.kept HS6.out.chg)).mono ?_
              rw [HMB.out _ hlo (fun d hd => by
                rcases List.mem_append.1 hd with hd | hd
                · rw [List.eq_of_mem_replicate hd]; exact HCCM.out
                · rcases List.mem_cons.1 hd with rfl | hd
                  · exact ⟨turn_may HCCM.out.1 HCCM.out.2, HCCM.out.2⟩
                  · rw [List.eq_of_mem_replicate hd]; exact HCCM.out), if_pos rfl]
              obtain ⟨L3, hL3⟩ : ∃ L3, keyL rn cn (oneOff i k cc cc.turn) 0 0 false ByteArray.empty = L3 := ⟨_, rfl⟩
              rw [hL3]
              obtain ⟨s1, s2, s3, s4, s5⟩ := short_all HF.out ⟨by omega, by omega⟩ HSC.out hki
              rw [HL1.out] at s1
              rw [HL2.out] at s2 s4 s5
              rw [hL3] at s3 s4 s5
              have hby2 : ∀ z ∈ L2, 0 ≤ z ∧ z ≤ 255 := by rw [← HL2.out]; exact keyL_byte _ _ _ _ _ _ _
              have hby3 : ∀ z ∈ L3, 0 ≤ z ∧ z ≤ 255 := by rw [← hL3]; exact keyL_byte _ _ _ _ _ _ _
              have HBY := Lib.hid (And.intro hby2 hby3)
              have hne : decide (L2 = L3) = false := by simpa using s5
              have HNE := Lib.hid hne
              clear hL3 hlo hby2 hby3 s5 hne
              rintro e w7 ⟨v7, rfl, hb7⟩
              have HS7 := Lib.hid (HS6.out.kept hb7.2.1)
              have HV7 := Lib.hid hb7.1
              have HVA7 := Lib.hid (HVA.out.kept hb7.2.1 (fun _ _ => id))
              have HVB7 := Lib.hid (HVB.out.kept hb7.2.1 (fun _ _ => id))
              clear hb7 HS6 HVA HVB
              obtain ⟨a7, c7, rfl, -⟩ := HV7.out.form
              rw [show encE true = 0 from rfl]
              go_wp2_with fail
              go_at_call 5
              refine (kfirst_any _ (HT.out.kept HS7.out.chg)).mono ?_
              rintro e w8 ⟨rfl, hc8⟩
              have HS8 := Lib.hid (HS7.out.kept hc8)
              have HV8 := Lib.hid (HV7.out.kept hc8 (fun _ _ => id))
              have HVB8 := Lib.hid (HVB7.out.kept hc8 (fun _ _ => id))
              clear hc8
              have hcl := HS8.out.cel
              have u0 := hcl.cell 0
              have u1 := hcl.cell 1
              have u2 := hcl.cell 2
              have u3 := hcl.cell 3
              have u4 := hcl.cell 4
              simp only [List.getElem?_toArray, List.getElem?_cons_zero, List.getElem?_cons_succ] at u0 u1 u2 u3 u4
              have hsc := HS8.out.scr
              have z0 := hsc.cell 0
              have z1 := hsc.cell 1
              have z2 := hsc.cell 2
              have z3 := hsc.cell 3
              have z4 := hsc.cell 4
              have z5 := hsc.cell 5
              have z6 := hsc.cell 6
              simp only [List.getElem?_toArray, List.getElem?_cons_zero, List.getElem?_cons_succ] at z0 z1 z2 z3 z4 z5 z6
              clear hcl hsc
              have q1 : (L1.length : Int) ≤ 18 := by omega
              have q2 : (L2.length : Int) ≤ 32 := by omega
              have q3 : (L3.length : Int) ≤ 72 := by omega
              by_cases hi1 : i = 1
              · have q4 : ((i : Int) == 1) = true := by simp; omega
                clear hmz hi1 s4
                go_wp2_with fail
                go_at_call 9
                refine (bytes_eq _ _ _ L2 L3 HVB8.out.rd HV8.out.rd HBY.out.1 HBY.out.2).mono ?_
                rw [HNE.out]
                rintro e w9 ⟨rfl, rfl⟩
                go_wp2
                go_ret
                exact ⟨rfl, HS8.out.chg⟩
              · have q4 : (L2.length : Int) < (L3.length : Int) := by omega
                have q5 : ((i : Int) == 1) = false := by simp; omega
                clear hi1 s4
                go_wp2_with fail
                go_at_call 9
                refine (bytes_eq _ _ _ L2 L3 HVB8.out.rd HV8.out.rd HBY.out.1 HBY.out.2).mono ?_
                rw [HNE.out]
                rintro e w9 ⟨rfl, rfl⟩
                go_wp2
                go_ret
                exact ⟨rfl, HS8.out.chg⟩
      · have hw0' : (w0 != 0) = true := by simpa using hw0
        go_wp2_with fail
        go_at_call 5
        refine (kfirst_any _ (HT.out.kept HS3.out.chg)).mono ?_
        rintro e w9 ⟨rfl, hc9⟩
        have HS9 := Lib.hid (HS3.out.kept hc9)
        clear hc9
        clear u0 u1 u2 u3 u4 z0 z1 z2 z3 z4 z5 z6
        go_wp2
        go_ret
        exact ⟨rfl, HS9.out.chg⟩
  · go_wp2_with fail
    go_at_call 12
    refine (blank_no w1 a0 a1 hf).mono ?_
    rintro e w2 ⟨rfl, hc2⟩
    have HC2 : Hid (Chg w w2 nob) := Lib.hid (HC1.out.trans hc2 (fun _ _ h => h))
    clear hc2
    go_wp2_with fail
    go_at_call 5
    refine (kfirst_any _ (HT.out.kept (HC2.out.alloc _))).mono ?_
    rintro e w3 ⟨rfl, hc3⟩
    have HC3 : Hid (Chg w w3 nob) := Lib.hid ((HC2.out.alloc _).trans hc3 (fun _ _ h => h))
    clear hc3
    go_wp2
    go_ret
    exact ⟨rfl, HC3.out⟩
theorem KeyShort_walk (w : World) (a0 a1 a3 : Int) (c2 : Ce) (w0 : -9223372036854775808 ≤ a0 ∧ a0 ≤ 9223372036854775807) (w1 : -9223372036854775808 ≤ a1 ∧ a1 ≤ 9223372036854775807) (w2 : c2.wf) (w3 : -9223372036854775808 ≤ a3 ∧ a3 ≤ 9223372036854775807) (ht : Tab w) :
    Calls Tryd.prog 4 #[.int .i64 a0, .int .i64 a1, c2.val, .int .i64 a3] w fun e w' => e = .returned (.bool true) ∧ Chg w w' nob := KeyShort_any w a0 a1 a3 c2 w0 w1 w3 ht
end Go.Proofs.YtpggonlijnfaeaaDoor
