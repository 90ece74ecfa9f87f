
/-
  Chapter 19: Decode, the program's and the document's.
-/
import Derived.Test.YtmekakecdgblaaaIdx2
import Derived.Test.YtmekakecdgblaaaDr2
import Derived.Test.YtmekakecdgblaaaText
import Derived.Test.YtmekakecdgblaaaAtG
import Derived.Test.YtmekakecdgblaaaBeq
namespace Go.Proofs.Ytmekakecdgblaaa
open Go.RowKit
set_option linter.unusedVariables false
set_option linter.unusedSimpArgs false

theorem i_entry : (Try.prog.info? 38).map (fun i => (i.zero, i.size, i.bytes)) = some (some (.agg #[.int .u64 0, .int .u64 0, .int .i64 0, .int .i64 0]), 4, 32) := by kernel_rfl
theorem i_entryR : (Try.prog.info? 45).map (fun i => (i.zero, i.size, i.bytes)) = some (some (.agg #[.int .u64 0, .int .u64 0, .int .i64 0, .int .i64 0]), 4, 32) := by kernel_rfl
theorem u_entries : Try.prog.underlying 22 = some (.slice 38) := by kernel_rfl
theorem u_entriesR : Try.prog.underlying 29 = some (.slice 45) := by kernel_rfl
/-- Entries in a row of their own, laid since w. -/
def NwE (T : TypeId) (w wr : World) (v : Value) (l : List En) : Prop := Own wr T 4 v l.length (entsV l) ∧ Chg w wr nob ∧ ∀ k, blkOf v k → w.heap.size ≤ k
theorem NwE.nil (T : TypeId) (w : World) : NwE T w w (.slice none 0 0) [] := ⟨World.ownsRow_nil _ _ _ _, Chg.refl _ _, fun k hk => by cases hk⟩
theorem NwE.kept {T : TypeId} {w wr w' : World} {v : Value} {l : List En} (h : NwE T w wr v l) (hc : Chg wr w' nob) : NwE T w w' v l := ⟨h.1.kept hc (fun _ _ => id), h.2.1.trans hc (fun _ _ x => x), h.2.2⟩
theorem NwE.form {T : TypeId} {w wr : World} {v : Value} {l : List En} (h : NwE T w wr v l) : ∃ a c, v = .slice a l.length c := by
  obtain ⟨a, c, h1, _⟩ := h.1.form
  exact ⟨a, c, h1⟩
theorem NwE.enr {T : TypeId} {w wr : World} {a : Option Addr} {c : Nat} {l : List En} (h : NwE T w wr (.slice a l.length c) l) : EnR wr a l := EnR.ofRd h.1.rd
theorem NwE.push {T : TypeId} {w wr w1 : World} {v v1 : Value} {l : List En} {e : En} (h : NwE T w wr v l) (ho : Own w1 T 4 v1 (l.length + 1) (entsV l ++ (enA e).toList)) (hc : Chg wr w1 (blkOf v)) (hf : ∀ k, blkOf v1 k → blkOf v k ∨ wr.heap.size ≤ k) : NwE T w w1 v1 (l ++ [e]) :=
  ⟨by simpa [entsV] using ho, h.2.1.trans hc (fun k hk hb => by have := h.2.2 k hb; omega), fun k hk => by
    rcases hf k hk with h1 | h1
    · exact h.2.2 k h1
    · exact Nat.le_trans h.2.1.size h1⟩
theorem rawE_no {l : List Int} (h : l.length < 4) : rawE l = none := by unfold rawE; rw [if_pos h]
theorem rawE_is {l : List Int} (h : 4 ≤ l.length) : rawE l = entQ (l.drop 4) := by unfold rawE; rw [if_neg (by omega)]
theorem stepE_none {l : List Int} (h : rawE l = none) : stepE l = none := by unfold stepE; rw [h]; rfl
theorem stepE_some {l r : List Int} {e : En} (h : rawE l = some (e, r)) (h2 : l.take 4 = fourL (crcL (textE e))) : stepE l = some (e, r) := by unfold stepE; rw [h, Option.bind_some, if_pos h2]
theorem stepE_sum {l r : List Int} {e : En} (h : rawE l = some (e, r)) (h2 : l.take 4 ≠ fourL (crcL (textE e))) : stepE l = none := by unfold stepE; rw [h, Option.bind_some, if_neg h2]
theorem numM_rest {most : Nat} {l : List Int} {x : Nat × List Int} (h : numM most l = some x) : x.2.length ≤ l.length := by
  unfold numM at h
  split at h
  · cases h
    simp only [List.length_drop]
    omega
  · cases h
theorem rawE_len {l : List Int} {x : En × List Int} (h : rawE l = some x) : x.2.length + 4 ≤ l.length := by
  unfold rawE at h
  split at h
  · cases h
  · rename_i h4
    unfold entQ at h
    obtain ⟨q, h1, h⟩ := Option.bind_eq_some_iff.1 h
    obtain ⟨t, h2, h⟩ := Option.bind_eq_some_iff.1 h
    obtain ⟨n, h3, h⟩ := Option.bind_eq_some_iff.1 h
    obtain ⟨a, h4, h⟩ := Option.bind_eq_some_iff.1 h
    cases h
    have k1 := numM_rest h1
    have k2 := numM_rest h2
    have k3 := numM_rest h3
    have k4 := numM_rest h4
    rw [List.length_drop] at k1
    show a.2.length + 4 ≤ _
    omega
theorem rawE_ok {l : List Int} {x : En × List Int} (h : rawE l = some x) : x.1.ok := by
  unfold rawE at h
  split at h
  · cases h
  · obtain ⟨h1, h2, h3, h4⟩ := entQ_ok h
    exact ⟨by omega, by omega, by omega, by omega⟩
theorem RdrR.keptE {w w' : World} {g p n : Nat} {u v : Value} {B : List Int} {e : Int} {xs : List Value} (h : RdrR w g u B p e) (ho : Own w 38 4 v n xs) (hc : Chg w w' (blkOf v)) : RdrR w' g u B p e :=
  ⟨h.blk.kept hc (fun hk => ho.ne h.blk (by decide) hk), h.own.kept hc (fun k hk hb => by
    obtain ⟨cur, hbk⟩ := ho.row hb
    exact h.own.ne hbk (by decide) hk), h.byte, h.le, h.big⟩
theorem NwE.rdr {w w0 w' : World} {g p : Nat} {u v : Value} {B : List Int} {e : Int} {l : List En} (h : NwE 38 w0 w v l) (hr : RdrR w g u B p e) (hc : Chg w w' (fun k => k = g)) (hg : w0.heap.size ≤ g) : NwE 38 w0 w' v l :=
  ⟨h.1.kept hc (fun k hk e => h.1.ne hr.blk (by decide) (by rwa [← e])), h.2.1.trans hc (fun k hk e => by omega), h.2.2⟩
set_option maxRecDepth 100000 in
set_option maxHeartbeats 3000000 in
theorem decode_any (w : World) (va : Value) (B : List Int) (hb : By w va B) (hl : B.length ≤ 1000000) :
    Calls Try.prog 11 #[va] w fun e' w' => ∃ v, e' = .returned v ∧ NwE 38 w w' v (decE B.length B) := by
  have HB := Lib.hid hb
  obtain ⟨D, hD⟩ : ∃ D, decE B.length B = D := ⟨_, rfl⟩
  have HD := Lib.hid hD
  rw [hD]
  clear hb hD
  go_enter Try.func11, Try.ntmps11
  go_wp2_with fail
  go_at_call 21
  refine (newrdr_any w _ B HB.out (by omega)).mono ?_
  rintro e' w0 ⟨g, u, rfl, hr, hck, hg, _⟩
  have HR := Lib.hid hr
  have HG := Lib.hid hg
  have HN := Lib.hid ((NwE.nil 38 w).kept hck)
  clear hr hck hg
  go_wp2_with fail
  go_loopw [4] (fun lv wr => ∃ (f p : Nat) (acc : List En), acc.length ≤ p ∧ Hid (acc ++ decE f (B.drop p) = D) ∧ Hid ((B.drop p).length ≤ f) ∧ Hid (NwE 38 w wr lv acc) ∧ Hid (RdrR wr g u B p 0)) (fun _ wr => match wr.cell? ⟨g, 1, none⟩ with | some (.int _ q) => B.length - q.toNat | _ => 0)
  case atStart => exact ⟨B.length, 0, [], Nat.le_refl _, Lib.hid (by rw [List.drop_zero]; exact HD.out), Lib.hid (by simp), HN, HR⟩
  case round =>
    clear HN HR
    obtain ⟨f, p, acc, hap, HA, HF, HN, HR⟩ := hrel
    rename World => wr
    have hple := HR.out.le
    obtain ⟨al, cl, rfl⟩ := HN.out.form
    have hm1 := HR.out.blk.cell 1
    simp only [List.getElem?_toArray, List.getElem?_cons_zero, List.getElem?_cons_succ] at hm1
    go_wp2_with fail
    go_at_call 22
    refine (rdraw_any wr g u B p 0 HR.out 4 (by decide)).mono ?_
    rintro e' w1 ⟨v5, L5, q1, e1, rfl, hr⟩
    have HQ : Hid (AtG (rawE (B.drop p)) e1 (entQ (B.drop q1))) := Lib.hid (by
      rcases hr.s with ⟨h1, _, h3, h4, _⟩ | ⟨h1, _, h3⟩
      · exact .inl ⟨h1, by rw [rawE_is (by rw [List.length_drop]; omega), List.drop_drop, h4]⟩
      · refine .inr ⟨h1, rawE_no ?_⟩
        rw [List.length_drop]
        rcases h3 with h3 | h3
        · exact absurd rfl h3
        · omega)
    have HL5 : Hid (e1 = 0 → L5 = (B.drop p).take 4 ∧ q1 = p + 4 ∧ p + 4 ≤ B.length) := Lib.hid (fun h0 => by
      rcases hr.s with ⟨_, _, h3, h4, h5⟩ | ⟨h1, _, _⟩
      · exact ⟨h5, h4, h3⟩
      · exact absurd h0 h1)
    have H5 : Hid (By w1 v5 L5) := Lib.hid ⟨hr.v.1.rd, hr.v.1.nilOk, by
      rcases hr.s with ⟨_, _, _, _, h5⟩ | ⟨_, h5, _⟩
      · rw [h5]; intro x hx; exact HR.out.byte x (List.mem_of_mem_drop (List.mem_of_mem_take hx))
      · rw [h5]; intro x hx; cases hx⟩
    have H5B : Hid (∀ k, blkOf v5 k → k ≠ g) := Lib.hid (fun k hk e => by have h1 := hr.v.2 k hk; have h2 := HR.out.blk.lt; omega)
    replace HN := Lib.hid (HN.out.rdr HR.out hr.c HG.out)
    replace HR := Lib.hid hr.r
    obtain ⟨a5, c5, rfl, _⟩ := H5.out.form
    have HZ : Hid (e1 = 0 → e1 = 0) := Lib.hid id
    clear hr
    go_wp2_with fail
    go_at_call 23
    refine (rdnum_any w1 g _ B q1 e1 HR.out 18446744073709551615).mono ?_
    rintro e' w2 ⟨n1, q2, e2, rfl, hr⟩
    replace HZ : Hid (e2 = 0 → e1 = 0) := Lib.hid (fun h => HZ.out (by
      rcases hr.s with ⟨_, h2, _⟩ | ⟨h2, _⟩
      · exact h2
      · exact absurd h h2))
    replace HQ : Hid (AtG (rawE (B.drop p)) _ _) := Lib.hid (HQ.out.num hr.s)
    replace HN := Lib.hid (HN.out.rdr HR.out hr.c HG.out)
    replace H5 : Hid (By w2 (.slice a5 L5.length c5) L5) := Lib.hid (H5.out.keptF hr.c (fun k hk e => H5B.out k hk e))
    replace HR := Lib.hid hr.r
    clear hr
    go_wp2_with fail
    go_at_call 23
    refine (rdnum_any w2 g _ B q2 e2 HR.out 18446744073709551615).mono ?_
    rintro e' w3 ⟨n2, q3, e3, rfl, hr⟩
    replace HZ : Hid (e3 = 0 → e1 = 0) := Lib.hid (fun h => HZ.out (by
      rcases hr.s with ⟨_, h2, _⟩ | ⟨h2, _⟩
      · exact h2
      · exact absurd h h2))
    replace HQ : Hid (AtG (rawE (B.drop p)) _ _) := Lib.hid (HQ.out.num hr.s)
    replace HN := Lib.hid (HN.out.rdr HR.out hr.c HG.out)
    replace H5 : Hid (By w3 (.slice a5 L5.length c5) L5) := Lib.hid (H5.out.keptF hr.c (fun k hk e => H5B.out k hk e))
    replace HR := Lib.hid hr.r
    clear hr
    go_wp2_with fail
    go_at_call 23
    refine (rdnum_any w3 g _ B q3 e3 HR.out 2147483647).mono ?_
    rintro e' w4 ⟨n3, q4, e4, rfl, hr⟩
    have hn3 := hr.le
    replace HZ : Hid (e4 = 0 → e1 = 0) := Lib.hid (fun h => HZ.out (by
      rcases hr.s with ⟨_, h2, _⟩ | ⟨h2, _⟩
      · exact h2
      · exact absurd h h2))
    replace HQ : Hid (AtG (rawE (B.drop p)) _ _) := Lib.hid (HQ.out.num hr.s)
    replace HN := Lib.hid (HN.out.rdr HR.out hr.c HG.out)
    replace H5 : Hid (By w4 (.slice a5 L5.length c5) L5) := Lib.hid (H5.out.keptF hr.c (fun k hk e => H5B.out k hk e))
    replace HR := Lib.hid hr.r
    clear hr
    go_wp2_with fail
    go_at_call 23
    refine (rdnum_any w4 g _ B q4 e4 HR.out 2147483647).mono ?_
    rintro e' w5 ⟨n4, q5, e5, rfl, hr⟩
    have hn4 := hr.le
    replace HZ : Hid (e5 = 0 → e1 = 0) := Lib.hid (fun h => HZ.out (by
      rcases hr.s with ⟨_, h2, _⟩ | ⟨h2, _⟩
      · exact h2
      · exact absurd h h2))
    replace HQ : Hid (AtG (rawE (B.drop p)) _ _) := Lib.hid (HQ.out.num hr.s)
    replace HN := Lib.hid (HN.out.rdr HR.out hr.c HG.out)
    replace H5 : Hid (By w5 (.slice a5 L5.length c5) L5) := Lib.hid (H5.out.keptF hr.c (fun k hk e => H5B.out k hk e))
    replace HR := Lib.hid hr.r
    clear hr
    have hw3 : IntKind.i64.wrap (n3 : Int) = (n3 : Int) := by simp only [IntKind.wrap, IntKind.bits, IntKind.signed]; simp; omega
    have hw4 : IntKind.i64.wrap (n4 : Int) = (n4 : Int) := by simp only [IntKind.wrap, IntKind.bits, IntKind.signed]; simp; omega
    replace HQ : Hid (AtG (rawE (B.drop p)) e5 (some ((⟨n1, n2, (n3 : Int), (n4 : Int)⟩ : En), B.drop q5))) := HQ
    obtain ⟨E, hE⟩ : ∃ E : En, (⟨n1, n2, (n3 : Int), (n4 : Int)⟩ : En) = E := ⟨_, rfl⟩
    have HEA : Hid (enA E = #[.int .u64 n1, .int .u64 n2, .int .i64 n3, .int .i64 n4]) := Lib.hid (by rw [← hE])
    rw [hE] at HQ
    clear hE
    go_upto_region 5 with (fail)
    obtain ⟨w6, hw⟩ : ∃ W, World.alloc w5 (.cells #[.int .u64 n1, .int .u64 n2, .int .i64 n3, .int .i64 n4] 38) = W := ⟨_, rfl⟩
    have hck : Chg w5 w6 nob := by rw [← hw]; exact (Chg.refl w5 nob).alloc _
    have HX : Hid (Blk w6 w5.heap.size 38 (enA E)) := Lib.hid (by rw [← hw, HEA.out]; exact Blk.new w5 _ _)
    rw [hw]
    clear hw hw3 hw4 hn3 hn4
    obtain ⟨ix, hix⟩ : ∃ i, w5.heap.size = i := ⟨_, rfl⟩
    rw [hix] at HX ⊢
    clear hix
    replace HN := Lib.hid (HN.out.kept hck)
    replace HR := Lib.hid (HR.out.kept hck)
    replace H5 := Lib.hid (H5.out.kept hck)
    clear hck
    go_wp2_with fail
    go_at_call 24
    refine (err_any w6 g _ B q5 e5 HR.out).mono ?_
    rintro e' w7 ⟨rfl, rfl⟩
    by_cases he5 : e5 = 0
    · have HRQ : Hid (rawE (B.drop p) = some (E, B.drop q5)) := Lib.hid (by
        rcases HQ.out with ⟨_, h⟩ | ⟨h, _⟩
        · exact h
        · exact absurd he5 h)
      have HT4 : Hid (L5 = (B.drop p).take 4) := Lib.hid (HL5.out (HZ.out he5)).1
      have hlen := rawE_len HRQ.out
      simp only [List.length_drop] at hlen
      have hqle := HR.out.le
      subst he5
      have HEK := Lib.hid (rawE_ok HRQ.out)
      have hxl := textE_len E HEK.out
      have x0 := HX.out.cell 0
      have x1 := HX.out.cell 1
      have x2 := HX.out.cell 2
      have x3 := HX.out.cell 3
      simp only [List.getElem?_toArray, List.getElem?_cons_zero, List.getElem?_cons_succ] at x0 x1 x2 x3
      go_wp2_with fail
      go_at_call 15
      refine (text_any w6 E HEK.out).mono ?_
      rintro e' w7 ⟨vt, rfl, hby, hck, _⟩
      have HT := Lib.hid hby
      replace HN := Lib.hid (HN.out.kept hck)
      replace HR := Lib.hid (HR.out.kept hck)
      replace H5 := Lib.hid (H5.out.kept hck)
      replace HX := Lib.hid (HX.out.kept hck id)
      clear hby hck x0 x1 x2 x3
      go_wp2_with fail
      go_at_call 17
      refine (crc_any w7 _ (textE E) HT.out (by omega)).mono ?_
      rintro e' w8 ⟨rfl, rfl⟩
      obtain ⟨cr, hcr⟩ : ∃ x, crcL (textE E) = x := ⟨_, rfl⟩
      have HCR := Lib.hid hcr
      rw [hcr]
      clear hcr
      go_wp2_with fail
      go_at_call 16
      refine (wfour_any w8 cr).mono ?_
      rintro e' w9 ⟨vf, rfl, hf⟩
      have HF4 := Lib.hid (By.ofBx hf (fourL_byte cr))
      have hck := hf.2.1
      replace HN := Lib.hid (HN.out.kept hck)
      replace HR := Lib.hid (HR.out.kept hck)
      replace H5 := Lib.hid (H5.out.kept hck)
      replace HX := Lib.hid (HX.out.kept hck id)
      clear hf hck
      obtain ⟨qb, hqb⟩ : ∃ b, decide (L5 = fourL cr) = b := ⟨_, rfl⟩
      have HQB := Lib.hid hqb
      go_wp2_with fail
      go_at_call 25
      refine (bequal_by H5.out HF4.out).mono ?_
      rw [hqb]
      clear hqb
      rintro e' w10 ⟨rfl, rfl⟩
      cases qb with
      | false =>
        have HD2 : Hid (acc = D) := Lib.hid (by
          have h := HA.out
          rwa [decE_none (stepE_sum HRQ.out (by rw [← HT4.out, HCR.out]; exact of_decide_eq_false HQB.out)), List.append_nil] at h)
        go_wp2
        go_ret
        exact ⟨_, rfl, by rw [← HD2.out]; exact HN.out⟩
      | true =>
        obtain ⟨f, rfl⟩ : ∃ k, f = k + 1 := ⟨f - 1, by have := HF.out; simp only [List.length_drop] at this; omega⟩
        have HD2 : Hid ((acc ++ [E]) ++ decE f (B.drop q5) = D) := Lib.hid (by
          have h := HA.out
          rwa [decE_some (stepE_some HRQ.out (by rw [← HT4.out, HCR.out]; exact of_decide_eq_true HQB.out)), List.append_cons] at h)
        have HF2 : Hid ((B.drop q5).length ≤ f) := Lib.hid (by have := HF.out; simp only [List.length_drop] at this ⊢; omega)
        have x0 := HX.out.cell 0
        have x1 := HX.out.cell 1
        have x2 := HX.out.cell 2
        have x3 := HX.out.cell 3
        simp only [List.getElem?_toArray, List.getElem?_cons_zero, List.getElem?_cons_succ] at x0 x1 x2 x3
        have HEC : Hid (#[Value.int .u64 E.q, .int .u64 E.t, .int .i64 E.n, .int .i64 E.a] = enA E) := Lib.hid rfl
        go_wp2_with (at_builtin; refine wpList_push rfl (.tmp 35) (.tmp 37) 22 rfl 38 (.agg #[.int .u64 0, .int .u64 0, .int .i64 0, .int .i64 0]) 4 32 i_entry u_entries rfl (by decide) (.slice al acc.length cl) acc.length _ rfl HN.out.1 1 1 rfl rfl rfl (by unfold maxLen; omega) (by omega) ?_)
        intro v11 w11 ho hch hf
        have HN2 : Hid (NwE 38 w w11 v11 (acc ++ [E])) := Lib.hid (HN.out.push ho hch hf)
        replace HR := Lib.hid (HR.out.keptE HN.out.1 hch)
        obtain ⟨a11, c11, rfl⟩ := HN2.out.form
        clear ho hch hf
        have hm2 := HR.out.blk.cell 1
        simp only [List.getElem?_toArray, List.getElem?_cons_zero, List.getElem?_cons_succ] at hm2
        go_wp2
        go_roundw
        case rel => exact ⟨f, q5, acc ++ [E], by simp; omega, HD2, HF2, HN2, HR⟩
        case measure => simp only [hm1, hm2, Int.toNat_natCast]; omega
    · have he5' : (e5 != 0) = true := by simpa using he5
      have HD2 : Hid (acc = D) := Lib.hid (by
        have h := HA.out
        rcases HQ.out with ⟨h1, _⟩ | ⟨_, h1⟩
        · exact absurd h1 he5
        · rwa [decE_none (stepE_none h1), List.append_nil] at h)
      go_wp2
      go_ret
      exact ⟨_, rfl, by rw [← HD2.out]; exact HN.out⟩
theorem NwE.rdrD {w w0 w' : World} {g p : Nat} {u v : Value} {B : List Int} {e : Int} {l : List En} (h : NwE 45 w0 w v l) (hr : RdD w g u B p e) (hc : Chg w w' (fun k => k = g)) (hg : w0.heap.size ≤ g) : NwE 45 w0 w' v l :=
  ⟨h.1.kept hc (fun k hk e => h.1.ne hr.blk (by decide) (by rwa [← e])), h.2.1.trans hc (fun k hk e => by omega), h.2.2⟩
theorem RdD.keptE {w w0 w' : World} {g p : Nat} {u v : Value} {B : List Int} {e : Int} {l : List En} (h : RdD w g u B p e) (hn : NwE 45 w0 w v l) (hb : By w0 u B) (hc : Chg w w' (blkOf v)) : RdD w' g u B p e :=
  ⟨h.blk.kept hc (fun hk => hn.1.ne h.blk (by decide) hk), h.by_.keptN hc (fun hL k hk hk2 => by have h1 := hb.lt hL hk; have h2 := hn.2.2 k hk2; omega), h.le, h.big⟩
set_option maxRecDepth 100000 in
set_option maxHeartbeats 3000000 in
theorem rdecode_any (w : World) (va : Value) (B : List Int) (hb : By w va B) (hl : B.length ≤ 1000000) :
    Calls Try.prog 12 #[va] w fun e' w' => ∃ v, e' = .returned v ∧ NwE 45 w w' v (decE B.length B) := by
  have HB := Lib.hid hb
  obtain ⟨D, hD⟩ : ∃ D, decE B.length B = D := ⟨_, rfl⟩
  have HD := Lib.hid hD
  rw [hD]
  clear hb hD
  go_enter Try.func12, Try.ntmps12
  obtain ⟨a0, c0, rfl, _⟩ := HB.out.form
  go_upto_region 3 with (fail)
  obtain ⟨w0, hw⟩ : ∃ W, World.alloc w (.cells #[.slice a0 B.length c0, .int .i64 0, .int .i64 0] 54) = W := ⟨_, rfl⟩
  have hck : Chg w w0 nob := by rw [← hw]; exact (Chg.refl w nob).alloc _
  have HR : Hid (RdD w0 w.heap.size (.slice a0 B.length c0) B 0 0) := Lib.hid ⟨by rw [← hw]; exact Blk.new w _ _, HB.out.kept hck, Nat.zero_le _, by omega⟩
  rw [hw]
  clear hw
  obtain ⟨g, hg⟩ : ∃ i, w.heap.size = i := ⟨_, rfl⟩
  have HG : Hid (w.heap.size ≤ g) := Lib.hid (Nat.le_of_eq hg)
  rw [hg] at HR ⊢
  clear hg
  have HN := Lib.hid ((NwE.nil 45 w).kept hck)
  clear hck
  go_wp2_with fail
  go_loopw [3] (fun lv wr => ∃ (f p : Nat) (acc : List En), acc.length ≤ p ∧ Hid (acc ++ decE f (B.drop p) = D) ∧ Hid ((B.drop p).length ≤ f) ∧ Hid (NwE 45 w wr lv acc) ∧ Hid (RdD wr g (.slice a0 B.length c0) B p 0)) (fun _ wr => match wr.cell? ⟨g, 1, none⟩ with | some (.int _ q) => B.length - q.toNat | _ => 0)
  case atStart => exact ⟨B.length, 0, [], Nat.le_refl _, Lib.hid (by rw [List.drop_zero]; exact HD.out), Lib.hid (by simp), HN, HR⟩
  case round =>
    clear HN HR
    obtain ⟨f, p, acc, hap, HA, HF, HN, HR⟩ := hrel
    rename World => wr
    have hple := HR.out.le
    obtain ⟨al, cl, rfl⟩ := HN.out.form
    have hm1 := HR.out.blk.cell 1
    simp only [List.getElem?_toArray, List.getElem?_cons_zero, List.getElem?_cons_succ] at hm1
    by_cases hpl : p < B.length
    · skip
      have hpi : (0 : Int) < (B.length : Int) - (p : Int) := by omega
      go_wp2_with fail
      go_at_call 26
      refine (dleft_any wr g _ B p 0 HR.out).mono ?_
      rintro e' wl ⟨rfl, hck⟩
      replace HN := Lib.hid (HN.out.kept hck)
      replace HR := Lib.hid (HR.out.kept hck)
      clear hck hpi
      go_wp2_with fail
      go_at_call 27
      refine (draw_any wl g _ B p 0 HR.out 4 (by decide)).mono ?_
      rintro e' w1 ⟨v5, L5, q1, e1, rfl, hr⟩
      have HQ : Hid (AtG (rawE (B.drop p)) e1 (entQ (B.drop q1))) := Lib.hid (by
        rcases hr.s with ⟨h1, _, h3, h4, _⟩ | ⟨h1, _, _, h3⟩
        · exact .inl ⟨h1, by rw [rawE_is (by rw [List.length_drop]; omega), List.drop_drop, h4]⟩
        · refine .inr ⟨h1, rawE_no ?_⟩
          rw [List.length_drop]
          rcases h3 with h3 | h3
          · exact absurd rfl h3
          · omega)
      have HL5 : Hid (e1 = 0 → L5 = (B.drop p).take 4 ∧ q1 = p + 4 ∧ p + 4 ≤ B.length) := Lib.hid (fun h0 => by
        rcases hr.s with ⟨_, _, h3, h4, h5⟩ | ⟨h1, _, _⟩
        · exact ⟨h5, h4, h3⟩
        · exact absurd h0 h1)
      have H5 : Hid (By w1 v5 L5) := Lib.hid ⟨hr.v.1.rd, hr.v.1.nilOk, by
        rcases hr.s with ⟨_, _, _, _, h5⟩ | ⟨_, h5, _, _⟩
        · rw [h5]; intro x hx; exact HR.out.by_.byte x (List.mem_of_mem_drop (List.mem_of_mem_take hx))
        · rw [h5]; intro x hx; cases hx⟩
      have H5B : Hid (∀ k, blkOf v5 k → k ≠ g) := Lib.hid (fun k hk e => by have h1 := hr.v.2 k hk; have h2 := HR.out.blk.lt; omega)
      replace HN := Lib.hid (HN.out.rdrD HR.out hr.c HG.out)
      replace HR := Lib.hid hr.r
      obtain ⟨a5, c5, rfl, _⟩ := H5.out.form
      have HZ : Hid (e1 = 0 → e1 = 0) := Lib.hid id
      clear hr
      go_wp2_with fail
      go_at_call 28
      refine (dnum_any w1 g _ B q1 e1 HR.out 18446744073709551615).mono ?_
      rintro e' w2 ⟨n1, q2, e2, rfl, hr⟩
      replace HZ : Hid (e2 = 0 → e1 = 0) := Lib.hid (fun h => HZ.out (by
        rcases hr.s with ⟨_, h2, _⟩ | ⟨h2, _⟩
        · exact h2
        · exact absurd h h2))
      replace HQ : Hid (AtG (rawE (B.drop p)) _ _) := Lib.hid (HQ.out.num hr.s)
      replace HN := Lib.hid (HN.out.rdrD HR.out hr.c HG.out)
      replace H5 : Hid (By w2 (.slice a5 L5.length c5) L5) := Lib.hid (H5.out.keptF hr.c (fun k hk e => H5B.out k hk e))
      replace HR := Lib.hid hr.r
      clear hr
      go_wp2_with fail
      go_at_call 28
      refine (dnum_any w2 g _ B q2 e2 HR.out 18446744073709551615).mono ?_
      rintro e' w3 ⟨n2, q3, e3, rfl, hr⟩
      replace HZ : Hid (e3 = 0 → e1 = 0) := Lib.hid (fun h => HZ.out (by
        rcases hr.s with ⟨_, h2, _⟩ | ⟨h2, _⟩
        · exact h2
        · exact absurd h h2))
      replace HQ : Hid (AtG (rawE (B.drop p)) _ _) := Lib.hid (HQ.out.num hr.s)
      replace HN := Lib.hid (HN.out.rdrD HR.out hr.c HG.out)
      replace H5 : Hid (By w3 (.slice a5 L5.length c5) L5) := Lib.hid (H5.out.keptF hr.c (fun k hk e => H5B.out k hk e))
      replace HR := Lib.hid hr.r
      clear hr
      go_wp2_with fail
      go_at_call 28
      refine (dnum_any w3 g _ B q3 e3 HR.out 2147483647).mono ?_
      rintro e' w4 ⟨n3, q4, e4, rfl, hr⟩
      have hn3 := hr.le
      replace HZ : Hid (e4 = 0 → e1 = 0) := Lib.hid (fun h => HZ.out (by
        rcases hr.s with ⟨_, h2, _⟩ | ⟨h2, _⟩
        · exact h2
        · exact absurd h h2))
      replace HQ : Hid (AtG (rawE (B.drop p)) _ _) := Lib.hid (HQ.out.num hr.s)
      replace HN := Lib.hid (HN.out.rdrD HR.out hr.c HG.out)
      replace H5 : Hid (By w4 (.slice a5 L5.length c5) L5) := Lib.hid (H5.out.keptF hr.c (fun k hk e => H5B.out k hk e))
      replace HR := Lib.hid hr.r
      clear hr
      go_wp2_with fail
      go_at_call 28
      refine (dnum_any w4 g _ B q4 e4 HR.out 2147483647).mono ?_
      rintro e' w5 ⟨n4, q5, e5, rfl, hr⟩
      have hn4 := hr.le
      replace HZ : Hid (e5 = 0 → e1 = 0) := Lib.hid (fun h => HZ.out (by
        rcases hr.s with ⟨_, h2, _⟩ | ⟨h2, _⟩
        · exact h2
        · exact absurd h h2))
      replace HQ : Hid (AtG (rawE (B.drop p)) _ _) := Lib.hid (HQ.out.num hr.s)
      replace HN := Lib.hid (HN.out.rdrD HR.out hr.c HG.out)
      replace H5 : Hid (By w5 (.slice a5 L5.length c5) L5) := Lib.hid (H5.out.keptF hr.c (fun k hk e => H5B.out k hk e))
      replace HR := Lib.hid hr.r
      clear hr
      have hw3 : IntKind.i64.wrap (n3 : Int) = (n3 : Int) := by simp only [IntKind.wrap, IntKind.bits, IntKind.signed]; simp; omega
      have hw4 : IntKind.i64.wrap (n4 : Int) = (n4 : Int) := by simp only [IntKind.wrap, IntKind.bits, IntKind.signed]; simp; omega
      replace HQ : Hid (AtG (rawE (B.drop p)) e5 (some ((⟨n1, n2, (n3 : Int), (n4 : Int)⟩ : En), B.drop q5))) := HQ
      obtain ⟨E, hE⟩ : ∃ E : En, (⟨n1, n2, (n3 : Int), (n4 : Int)⟩ : En) = E := ⟨_, rfl⟩
      have HEA : Hid (enA E = #[.int .u64 n1, .int .u64 n2, .int .i64 n3, .int .i64 n4]) := Lib.hid (by rw [← hE])
      rw [hE] at HQ
      clear hE
      go_upto_region 6 with (fail)
      obtain ⟨w6, hw⟩ : ∃ W, World.alloc w5 (.cells #[.int .u64 n1, .int .u64 n2, .int .i64 n3, .int .i64 n4] 45) = W := ⟨_, rfl⟩
      have hck : Chg w5 w6 nob := by rw [← hw]; exact (Chg.refl w5 nob).alloc _
      have HX : Hid (Blk w6 w5.heap.size 45 (enA E)) := Lib.hid (by rw [← hw, HEA.out]; exact Blk.new w5 _ _)
      rw [hw]
      clear hw hw3 hw4 hn3 hn4
      obtain ⟨ix, hix⟩ : ∃ i, w5.heap.size = i := ⟨_, rfl⟩
      rw [hix] at HX ⊢
      clear hix
      replace HN := Lib.hid (HN.out.kept hck)
      replace HR := Lib.hid (HR.out.kept hck)
      replace H5 := Lib.hid (H5.out.kept hck)
      clear hck
      have y0 := HR.out.blk.cell 0
      have y1 := HR.out.blk.cell 1
      have y2 := HR.out.blk.cell 2
      simp only [List.getElem?_toArray, List.getElem?_cons_zero, List.getElem?_cons_succ] at y0 y1 y2
      by_cases he5 : e5 = 0
      · have HRQ : Hid (rawE (B.drop p) = some (E, B.drop q5)) := Lib.hid (by
          rcases HQ.out with ⟨_, h⟩ | ⟨h, _⟩
          · exact h
          · exact absurd he5 h)
        have HT4 : Hid (L5 = (B.drop p).take 4) := Lib.hid (HL5.out (HZ.out he5)).1
        have hlen := rawE_len HRQ.out
        simp only [List.length_drop] at hlen
        have hqle := HR.out.le
        subst he5
        have HEK := Lib.hid (rawE_ok HRQ.out)
        have hxl := textE_len E HEK.out
        have x0 := HX.out.cell 0
        have x1 := HX.out.cell 1
        have x2 := HX.out.cell 2
        have x3 := HX.out.cell 3
        simp only [List.getElem?_toArray, List.getElem?_cons_zero, List.getElem?_cons_succ] at x0 x1 x2 x3
        go_wp2_with fail
        go_at_call 18
        refine (rone_any w6 E HEK.out).mono ?_
        rintro e' w7 ⟨vt, rfl, hby, hck, _⟩
        have HT := Lib.hid hby
        replace HN := Lib.hid (HN.out.kept hck)
        replace HR := Lib.hid (HR.out.kept hck)
        replace H5 := Lib.hid (H5.out.kept hck)
        replace HX := Lib.hid (HX.out.kept hck id)
        clear hby hck x0 x1 x2 x3 y0 y1 y2
        go_wp2_with fail
        go_at_call 20
        refine (rcrc_any w7 _ (textE E) HT.out (by omega)).mono ?_
        rintro e' w8 ⟨rfl, rfl⟩
        obtain ⟨cr, hcr⟩ : ∃ x, crcL (textE E) = x := ⟨_, rfl⟩
        have HCR := Lib.hid hcr
        rw [hcr]
        clear hcr
        go_wp2_with fail
        go_at_call 19
        refine (four_any w8 cr).mono ?_
        rintro e' w9 ⟨vf, rfl, hf⟩
        have HF4 := Lib.hid (By.ofBx hf (fourL_byte cr))
        have hck := hf.2.1
        replace HN := Lib.hid (HN.out.kept hck)
        replace HR := Lib.hid (HR.out.kept hck)
        replace H5 := Lib.hid (H5.out.kept hck)
        replace HX := Lib.hid (HX.out.kept hck id)
        clear hf hck
        obtain ⟨qb, hqb⟩ : ∃ b, decide (L5 = fourL cr) = b := ⟨_, rfl⟩
        have HQB := Lib.hid hqb
        go_wp2_with fail
        go_at_call 6
        refine (bytes_by H5.out HF4.out).mono ?_
        rw [hqb]
        clear hqb
        rintro e' w10 ⟨rfl, rfl⟩
        cases qb with
        | false =>
          have HD2 : Hid (acc = D) := Lib.hid (by
            have h := HA.out
            rwa [decE_none (stepE_sum HRQ.out (by rw [← HT4.out, HCR.out]; exact of_decide_eq_false HQB.out)), List.append_nil] at h)
          go_wp2
          go_ret
          exact ⟨_, rfl, by rw [← HD2.out]; exact HN.out⟩
        | true =>
          obtain ⟨f, rfl⟩ : ∃ k, f = k + 1 := ⟨f - 1, by have := HF.out; simp only [List.length_drop] at this; omega⟩
          have HD2 : Hid ((acc ++ [E]) ++ decE f (B.drop q5) = D) := Lib.hid (by
            have h := HA.out
            rwa [decE_some (stepE_some HRQ.out (by rw [← HT4.out, HCR.out]; exact of_decide_eq_true HQB.out)), List.append_cons] at h)
          have HF2 : Hid ((B.drop q5).length ≤ f) := Lib.hid (by have := HF.out; simp only [List.length_drop] at this ⊢; omega)
          have x0 := HX.out.cell 0
          have x1 := HX.out.cell 1
          have x2 := HX.out.cell 2
          have x3 := HX.out.cell 3
          simp only [List.getElem?_toArray, List.getElem?_cons_zero, List.getElem?_cons_succ] at x0 x1 x2 x3
          have HEC : Hid (#[Value.int .u64 E.q, .int .u64 E.t, .int .i64 E.n, .int .i64 E.a] = enA E) := Lib.hid rfl
          go_wp2_with (at_builtin; refine wpList_push rfl (.tmp 41) (.tmp 43) 29 rfl 45 (.agg #[.int .u64 0, .int .u64 0, .int .i64 0, .int .i64 0]) 4 32 i_entryR u_entriesR rfl (by decide) (.slice al acc.length cl) acc.length _ rfl HN.out.1 1 1 rfl rfl rfl (by unfold maxLen; omega) (by omega) ?_)
          intro v11 w11 ho hch hf
          have HN2 : Hid (NwE 45 w w11 v11 (acc ++ [E])) := Lib.hid (HN.out.push ho hch hf)
          replace HR := Lib.hid (HR.out.keptE HN.out HB.out hch)
          obtain ⟨a11, c11, rfl⟩ := HN2.out.form
          clear ho hch hf
          have hm2 := HR.out.blk.cell 1
          simp only [List.getElem?_toArray, List.getElem?_cons_zero, List.getElem?_cons_succ] at hm2
          go_wp2
          go_roundw
          case rel => exact ⟨f, q5, acc ++ [E], by simp; omega, HD2, HF2, HN2, HR⟩
          case measure => simp only [hm1, hm2, Int.toNat_natCast]; omega
      · have he5' : (e5 != 0) = true := by simpa using he5
        have HD2 : Hid (acc = D) := Lib.hid (by
          have h := HA.out
          rcases HQ.out with ⟨h1, _⟩ | ⟨_, h1⟩
          · exact absurd h1 he5
          · rwa [decE_none (stepE_none h1), List.append_nil] at h)
        go_wp2
        go_ret
        exact ⟨_, rfl, by rw [← HD2.out]; exact HN.out⟩
    · have hpi : ¬ (0 : Int) < (B.length : Int) - (p : Int) := by omega
      have HD2 : Hid (acc = D) := Lib.hid (by
        have h := HA.out
        rwa [List.drop_eq_nil_of_le (by omega), decE_nil, List.append_nil] at h)
      go_wp2_with fail
      go_at_call 26
      refine (dleft_any wr g _ B p 0 HR.out).mono ?_
      rintro e' w1 ⟨rfl, hck⟩
      replace HN := Lib.hid (HN.out.kept hck)
      clear hck
      go_wp2
      go_ret
      exact ⟨_, rfl, by rw [← HD2.out]; exact HN.out⟩
end Go.Proofs.Ytmekakecdgblaaa
