/-
  The document's reader: cells (tikref13.ReadCells).
-/
import Derived.Test.YtmbdpcamhkdkmaaGreatDoorDr2M
import Derived.Test.YtmbdpcamhkdkmaaGreatDoorMg25
import Derived.Test.YtmbdpcamhkdkmaaGreatDoorMg19
import Derived.Test.YtmbdpcamhkdkmaaGreatDoorMg32
namespace Go.Proofs.YtmbdpcamhkdkmaaGreatDoor
open Go.RowKit
set_option linter.unusedVariables false
set_option linter.unusedSimpArgs false

def dq6 (n r f g b w : Nat) (l : List Int) : Option (Nat × Ce × List Int) := if n = 0 ∨ Ce.may ⟨r, f, g, b, w⟩ = false then none else some (n, ⟨r, f, g, b, w⟩, l)
def dq5 (n r f g b : Nat) (l : List Int) : Option (Nat × Ce × List Int) := (numM 2 l).bind fun w => dq6 n r f g b w.1 w.2
def dq4 (n r f g : Nat) (l : List Int) : Option (Nat × Ce × List Int) := (numM 33554432 l).bind fun b => dq5 n r f g b.1 b.2
def dq3 (n r f : Nat) (l : List Int) : Option (Nat × Ce × List Int) := (numM 33554432 l).bind fun g => dq4 n r f g.1 g.2
def dq2 (n r : Nat) (l : List Int) : Option (Nat × Ce × List Int) := (numM 255 l).bind fun f => dq3 n r f.1 f.2
def dq1 (n : Nat) (l : List Int) : Option (Nat × Ce × List Int) := (numM 1114111 l).bind fun r => dq2 n r.1 r.2
theorem runP_dq (most : Nat) (l : List Int) : runP most l = (numM most l).bind fun n => dq1 n.1 n.2 := by
  have h1 := runQ_same (fm := 9223372036854775807) (gm := 9223372036854775807) (bm := 9223372036854775807) (wm := 9223372036854775807) (most := most) l (by decide) (by decide) (by decide) (by decide)
  have h2 := runQ_same (fm := 255) (gm := 33554432) (bm := 33554432) (wm := 2) (most := most) l (by decide) (by decide) (by decide) (by decide)
  unfold runP
  rw [h1, ← h2]
  rfl
section
variable {w wr w' : World} {v : Value} {l : List Ce} {g p : Nat} {u : Value} {B : List Int} {e : Int}
/-- A new row of cells is not what is read. -/
theorem RdD.row (h : RdD wr g u B p e) (h0 : By w u B) (hl : Cs w wr v l) (hc : Chg wr w' (blkOf v)) : RdD w' g u B p e :=
  ⟨h.blk.kept hc (fun hk => hl.1.ne h.blk (by decide) hk), h.by_.keptN hc (fun hB k hk hf => by have := h0.lt hB hk; have := hl.2 k hf; omega), h.le, h.big⟩
theorem RdD.other (h : RdD wr g u B p e) (h0 : By w u B) {ix : Nat} (hne : ix ≠ g) (hnew : w.heap.size ≤ ix) (hc : Chg wr w' (fun k => k = ix)) : RdD w' g u B p e :=
  ⟨h.blk.kept hc (fun e => hne e.symm), h.by_.keptN hc (fun hB k hk hf => by have := h0.lt hB hk; omega), h.le, h.big⟩
theorem Blk.rdD {k : Nat} {t : TypeId} {cs : Array Value} (h : Blk wr k t cs) (hr : RdD wr g u B p e) (ht : t ≠ 58) (hc : Chg wr w' (fun k => k = g)) : Blk w' k t cs :=
  h.kept hc (fun e => by subst e; exact ht (h.inj hr.blk).1)
theorem Cs.rdD (h : Cs w wr v l) (hr : RdD wr g u B p e) (hc : Chg wr w' (fun k => k = g)) : Cs w w' v l := ⟨h.1.kept hc (fun k hk e => h.1.ne hr.blk (by decide) (by rwa [← e])), h.2⟩
theorem Tab.rdD (h : Tab w) (hr : RdD w g u B p e) (hc : Chg w w' (fun k => k = g)) : Tab w' := by
  obtain ⟨a, c, hu, _⟩ := hr.by_.form
  have h0 := hr.blk.cell 0
  simp only [List.getElem?_toArray, List.getElem?_cons_zero] at h0
  refine ⟨h.1.kept hc fun k hk hkg => ?_, h.2.kept hc fun k hk hkg => ?_⟩
  · obtain ⟨b, o, h1, h2⟩ := h.1.cell (j := 0) (u := .int .i32 0) rfl
    cases h1; cases hk; subst hkg
    rw [h0, hu] at h2
    cases h2
  · obtain ⟨b, o, h1, h2⟩ := h.2.cell (j := 0) (u := .int .i32 4352) rfl
    cases h1; cases hk; subst hkg
    rw [h0, hu] at h2
    cases h2
end
attribute [local go_sem ↓] ce_guard run_eql_ce run_neq_ce
set_option maxRecDepth 100000 in
set_option maxHeartbeats 4000000 in
theorem dcellsread_any (w : World) (g : Nat) (u : Value) (B : List Int) (p : Nat) (e : Int) (h : RdD w g u B p e) (n : Nat) (hn : n ≤ 12000) (ht : Tab w) :
    Calls Tryz.prog 33 #[ptr g, .int .i64 n] w fun e' w' => Chg w w' (fun k => k = g) ∧ ∃ q er, RdD w' g u B q er ∧ ((er = e ∧ (e = 0 ∨ n = 0) ∧ ∃ v cs, e' = .returned (.tuple #[v, .bool true]) ∧ Cs w w' v cs ∧ cellsF n (B.drop p) = some (cs, B.drop q)) ∨ (e' = .returned (.tuple #[.slice none 0 0, .bool false]) ∧ (e ≠ 0 ∨ cellsF n (B.drop p) = none))) := by
  have HR := Lib.hid h
  have HR0 := Lib.hid h
  have HB0 := Lib.hid h.by_
  have HT := Lib.hid ht
  obtain ⟨RP, hRP⟩ : ∃ R, cellsF n (B.drop p) = R := ⟨_, rfl⟩
  have HQ : Hid (RP = cellsQ n n [] (B.drop p)) := Lib.hid (by rw [← hRP]; rfl)
  rw [hRP]
  clear h ht hRP
  have hn0 : ¬ ((n : Int) < 0) := by omega
  have hn1 : ¬ ((12000 : Int) < (n : Int)) := by omega
  go_enter Tryz.func33, Tryz.ntmps33
  go_wp2_with fail
  go_loopw [6] (fun lv wr => ∃ (fu : Nat) (out : List Ce) (q L : Nat) (a : Option Addr) (c : Nat), lv = .slice a L c ∧ L ≤ n ∧ Hid (out.length = L) ∧ Hid (n ≤ L + fu) ∧ Hid (Cs w wr (.slice a L c) out) ∧ Hid (RP = cellsQ fu n out (B.drop q)) ∧ Hid (RdD wr g u B q e) ∧ Hid (e = 0 ∨ out = []) ∧ Hid (Chg w wr (fun k => k = g))) (fun lv _ => n - lenV lv)
  case atStart => exact ⟨n, [], p, 0, none, 0, rfl, Nat.zero_le _, Lib.hid rfl, Lib.hid (by simp), Lib.hid (Cs.nil w w), HQ, HR, Lib.hid (.inr rfl), Lib.hid (Chg.refl _ _)⟩
  case round =>
    obtain ⟨fu, out, q, L, a, c, rfl, hle, HLen, HF, HL, HQ1, HR1, HE, HC⟩ := hrel
    clear HQ HR
    have h0 : (0 : Int) ≤ (L : Int) := by omega
    by_cases hlt : L < n
    · have hii : (L : Int) < (n : Int) := by omega
      obtain ⟨fu', rfl⟩ : ∃ f, fu = f + 1 := ⟨fu - 1, by have := HF.out; omega⟩
      have hsub : IntKind.i64.wrap ((n : Int) - (L : Int)) = ((n - L : Nat) : Int) := by simp only [IntKind.wrap, IntKind.bits, IntKind.signed]; simp; omega
      have hsub2 : IntKind.u64.wrap ((n - L : Nat) : Int) = ((n - L : Nat) : Int) := wraps_u64 _ (by omega) (by omega)
      have HQ2 := HQ1.out
      rw [cellsQ, if_neg (by rw [HLen.out]; omega), HLen.out] at HQ2
      obtain ⟨RQ, hRQ⟩ : ∃ R, (if e = 0 then runP (n - L) (B.drop q) else none) = R := ⟨_, rfl⟩
      have HRN : Hid (RQ = none → e ≠ 0 ∨ RP = none) := Lib.hid (fun h => by
        by_cases h0 : e = 0
        · right; rw [HQ2]; rw [if_pos h0] at hRQ; rw [hRQ, h]
        · exact .inl h0)
      have HRS : Hid (∀ k ce r, RQ = some (k, ce, r) → e = 0 ∧ 0 < k ∧ k ≤ n - L ∧ RP = if out.getLast? = some ce then none else cellsQ fu' n (out ++ List.replicate k ce) r) := Lib.hid (fun k ce r h => by
        by_cases h0 : e = 0
        · rw [if_pos h0] at hRQ
          rw [h] at hRQ
          obtain ⟨_, h1, h2, _⟩ := runP_back (fun x hx => HR1.out.by_.byte x (List.mem_of_mem_drop hx)) (by omega) hRQ
          exact ⟨h0, h1, h2, by rw [HQ2, hRQ]⟩
        · rw [if_neg h0, h] at hRQ; cases hRQ)
      rw [runP_dq] at hRQ
      have HQ : Hid (AtG RQ e ((numM (n - L) (B.drop q)).bind fun n => dq1 n.1 n.2)) := Lib.hid (by
        by_cases h : e = 0
        · rw [if_pos h] at hRQ; exact .inl ⟨h, hRQ.symm⟩
        · rw [if_neg h] at hRQ; exact .inr ⟨h, hRQ.symm⟩)
      clear HQ1 HQ2 hRQ
      have HR := HR1
      clear HR1
      go_wp2_with fail
      go_at_call 30
      refine (dnum_any wr g u B q e HR.out (n - L)).mono ?_
      rintro e' w2 ⟨k, q1, e1, rfl, hr⟩
      have hlek := hr.le
      obtain ⟨hrd, hc, hs, _⟩ := hr
      replace HQ := Lib.hid (HQ.out.num hs)
      replace HC := Lib.hid (HC.out.trans hc (fun _ _ h => h))
      replace HL := Lib.hid (HL.out.rdD HR.out hc)
      skip
      replace HR := Lib.hid hrd
      clear hrd hc hs
      go_wp2_with fail
      go_at_call 30
      refine (dnum_any w2 g u B q1 e1 HR.out 1114111).mono ?_
      rintro e' w3 ⟨cr, q2, e2, rfl, hr⟩
      have hlecr := hr.le
      obtain ⟨hrd, hc, hs, _⟩ := hr
      replace HQ := Lib.hid (HQ.out.num hs)
      replace HC := Lib.hid (HC.out.trans hc (fun _ _ h => h))
      replace HL := Lib.hid (HL.out.rdD HR.out hc)
      skip
      replace HR := Lib.hid hrd
      clear hrd hc hs
      have hwr : IntKind.i32.wrap (cr : Int) = (cr : Int) := by simp only [IntKind.wrap, IntKind.bits, IntKind.signed]; simp; omega
      go_upto_region 7 with (fail)
      obtain ⟨w4, hw⟩ : ∃ W, w3.alloc (.cells #[.int .i32 (cr : Int), .int .i64 0, .int .i64 0, .int .i64 0, .int .i64 0] 47) = W := ⟨_, rfl⟩
      have hck : Chg w3 w4 nob := by rw [← hw]; exact (Chg.refl w3 nob).alloc _
      have HX : Hid (Blk w4 w3.heap.size 47 #[.int .i32 (cr : Int), .int .i64 0, .int .i64 0, .int .i64 0, .int .i64 0]) := Lib.hid (by rw [← hw]; exact Blk.new w3 _ _)
      rw [hw]
      clear hw
      have HNB : Hid (¬ blkOf (.slice a L c) w3.heap.size) := Lib.hid (fun hk => by have := HL.out.1.lt hk; omega)
      have HNG : Hid (w3.heap.size ≠ g) := Lib.hid (fun h => by have := HR.out.blk.lt; omega)
      have HWS : Hid (w.heap.size ≤ w3.heap.size) := Lib.hid HC.out.size
      obtain ⟨ix, hix⟩ : ∃ i, w3.heap.size = i := ⟨_, rfl⟩
      rw [hix] at HX HNB HNG HWS ⊢
      clear hix
      replace HR := Lib.hid (HR.out.kept hck)
      replace HL := Lib.hid (HL.out.kept hck)
      replace HC := Lib.hid (HC.out.trans hck (fun _ _ h => h.elim))
      clear hck
      go_wp2_with fail
      go_at_call 30
      refine (dnum_any w4 g u B q2 e2 HR.out 255).mono ?_
      rintro e' w5 ⟨cf, q3, e3, rfl, hr⟩
      have hlecf := hr.le
      obtain ⟨hrd, hc, hs, _⟩ := hr
      replace HQ := Lib.hid (HQ.out.num hs)
      replace HC := Lib.hid (HC.out.trans hc (fun _ _ h => h))
      replace HL := Lib.hid (HL.out.rdD HR.out hc)
      replace HX := Lib.hid (HX.out.rdD HR.out (by decide) hc)
      replace HR := Lib.hid hrd
      clear hrd hc hs
      go_wp2_with fail
      go_at_call 30
      refine (dnum_any w5 g u B q3 e3 HR.out 33554432).mono ?_
      rintro e' w6 ⟨cg, q4, e4, rfl, hr⟩
      have hlecg := hr.le
      obtain ⟨hrd, hc, hs, _⟩ := hr
      replace HQ := Lib.hid (HQ.out.num hs)
      replace HC := Lib.hid (HC.out.trans hc (fun _ _ h => h))
      replace HL := Lib.hid (HL.out.rdD HR.out hc)
      replace HX := Lib.hid (HX.out.rdD HR.out (by decide) hc)
      replace HR := Lib.hid hrd
      clear hrd hc hs
      go_wp2_with fail
      go_at_call 30
      refine (dnum_any w6 g u B q4 e4 HR.out 33554432).mono ?_
      rintro e' w7 ⟨cb, q5, e5, rfl, hr⟩
      have hlecb := hr.le
      obtain ⟨hrd, hc, hs, _⟩ := hr
      replace HQ := Lib.hid (HQ.out.num hs)
      replace HC := Lib.hid (HC.out.trans hc (fun _ _ h => h))
      replace HL := Lib.hid (HL.out.rdD HR.out hc)
      replace HX := Lib.hid (HX.out.rdD HR.out (by decide) hc)
      replace HR := Lib.hid hrd
      clear hrd hc hs
      go_wp2_with fail
      go_at_call 30
      refine (dnum_any w7 g u B q5 e5 HR.out 2).mono ?_
      rintro e' w8 ⟨cw, q6, e6, rfl, hr⟩
      have hlecw := hr.le
      obtain ⟨hrd, hc, hs, _⟩ := hr
      replace HQ := Lib.hid (HQ.out.num hs)
      replace HC := Lib.hid (HC.out.trans hc (fun _ _ h => h))
      replace HL := Lib.hid (HL.out.rdD HR.out hc)
      replace HX := Lib.hid (HX.out.rdD HR.out (by decide) hc)
      replace HR := Lib.hid hrd
      clear hrd hc hs
      have hwf : IntKind.i64.wrap (cf : Int) = (cf : Int) := by simp only [IntKind.wrap, IntKind.bits, IntKind.signed]; simp; omega
      have hwg : IntKind.i64.wrap (cg : Int) = (cg : Int) := by simp only [IntKind.wrap, IntKind.bits, IntKind.signed]; simp; omega
      have hwb : IntKind.i64.wrap (cb : Int) = (cb : Int) := by simp only [IntKind.wrap, IntKind.bits, IntKind.signed]; simp; omega
      have hww : IntKind.i64.wrap (cw : Int) = (cw : Int) := by simp only [IntKind.wrap, IntKind.bits, IntKind.signed]; simp; omega
      have x0 := HX.out.cell 0
      have x1 := HX.out.cell 1
      have x2 := HX.out.cell 2
      have x3 := HX.out.cell 3
      have x4 := HX.out.cell 4
      simp only [List.getElem?_toArray, List.getElem?_cons_zero, List.getElem?_cons_succ] at x0 x1 x2 x3 x4
      have z1 := HX.out.free 1
      have z2 := HX.out.free 2
      have z3 := HX.out.free 3
      have z4 := HX.out.free 4
      go_upto_region 8 with (fail)
      obtain ⟨w9, hw⟩ : ∃ W, (((w8.setCell ⟨ix, 1, none⟩ (.int .i64 cf)).setCell ⟨ix, 2, none⟩ (.int .i64 cg)).setCell ⟨ix, 3, none⟩ (.int .i64 cb)).setCell ⟨ix, 4, none⟩ (.int .i64 cw) = W := ⟨_, rfl⟩
      have hck : Chg w8 w9 (fun k => k = ix) := by
        rw [← hw]
        exact ((((Chg.refl w8 (fun k => k = ix)).setCell (p := ⟨ix, 1, none⟩) (.inl rfl) _).setCell (p := ⟨ix, 2, none⟩) (.inl rfl) _).setCell (p := ⟨ix, 3, none⟩) (.inl rfl) _).setCell (p := ⟨ix, 4, none⟩) (.inl rfl) _
      replace HX : Hid (Blk w9 ix 47 #[.int .i32 cr, .int .i64 cf, .int .i64 cg, .int .i64 cb, .int .i64 cw]) := Lib.hid (by rw [← hw]; exact (((HX.out.set 1 _).set 2 _).set 3 _).set 4 _)
      rw [hw]
      replace HR := Lib.hid (HR.out.other HB0.out HNG.out HWS.out hck)
      replace HL : Hid (Cs w w9 (.slice a L c) out) := Lib.hid ⟨HL.out.1.kept hck (fun k hk e => HNB.out (by rwa [← e])), HL.out.2⟩
      replace HC := Lib.hid (HC.out.trans hck (fun i hi h => by have := HWS.out; omega))
      clear hw hck x0 x1 x2 x3 x4 z1 z2 z3 z4 hwf hwg hwb hww hwr hsub hsub2
      refine wp_one [3, 10, 24, 25] [11] [] [0, 1, 2, 3, 4, 5, 6, 7, 8, 9, 10, 11, 12, 13, 14, 15, 16, 17, 18, 19, 20, 21, 22, 23, 24, 25, 26, 27, 28] rfl (by kernel_rfl) (fun _ _ _ _ _ h => h) ?_; simp only [List.map_cons, List.map_nil, List.getElem?_toArray, List.getElem?_cons_zero, List.getElem?_cons_succ]
      obtain ⟨wA, hw⟩ : ∃ W, World.drew w9 = W := ⟨_, rfl⟩
      have hck : Chg w9 wA nob := by rw [← hw]; exact (Chg.refl w9 nob).drew
      rw [hw]
      clear hw
      replace HX := Lib.hid (HX.out.kept hck id)
      replace HR := Lib.hid (HR.out.kept hck)
      replace HL := Lib.hid (HL.out.kept hck)
      replace HC := Lib.hid (HC.out.trans hck (fun _ _ h => h.elim))
      clear hck
      have x0 := HX.out.cell 0
      have x1 := HX.out.cell 1
      have x2 := HX.out.cell 2
      have x3 := HX.out.cell 3
      have x4 := HX.out.cell 4
      simp only [List.getElem?_toArray, List.getElem?_cons_zero, List.getElem?_cons_succ] at x0 x1 x2 x3 x4
      have q0 := HR.out.blk.cell 0
      have q1 := HR.out.blk.cell 1
      have q2 := HR.out.blk.cell 2
      simp only [List.getElem?_toArray, List.getElem?_cons_zero, List.getElem?_cons_succ] at q0 q1 q2
      have HQ6 : Hid (AtG RQ e6 (dq6 k cr cf cg cb cw (B.drop q6))) := HQ
      clear HQ
      by_cases he6 : e6 = 0
      · subst he6
        obtain ⟨_, hRQ⟩ | ⟨h, _⟩ := HQ6.out
        rotate_left
        · exact absurd rfl h
        by_cases hk0 : k = 0
        · have hk0' : ((k : Int) == 0) = true := by simp; omega
          have HN : Hid (e ≠ 0 ∨ RP = none) := Lib.hid (HRN.out (by rw [hRQ]; exact if_pos (.inl hk0)))
          clear hk0 hRQ
          (repeat (first | (apply can0; (· rfl); (· rfl); (· (intro w'; first | (go_simp; with_reducible rfl) | (go_simp; done))); simp only [Act.put, List.setIfInBounds_toArray, List.set_cons_zero, List.set_cons_succ]) | (apply can1; (· rfl); (· rfl); (· (first | (go_simp; with_reducible rfl) | (go_simp; done))); simp only [Act.put, List.setIfInBounds_toArray, List.set_cons_zero, List.set_cons_succ]) | (apply canN; (· rfl); (· rfl); simp only [Act.put, List.setIfInBounds_toArray, List.set_cons_zero, List.set_cons_succ]) | (apply canN1; (· rfl); (· rfl); simp only [Act.put, List.setIfInBounds_toArray, List.set_cons_zero, List.set_cons_succ]) | (apply can0; (· rfl); (· (go_simp; done)); (· (intro w'; first | (go_simp; with_reducible rfl) | (go_simp; done))); simp only [Act.put, List.setIfInBounds_toArray, List.set_cons_zero, List.set_cons_succ]) | (apply can1; (· rfl); (· (go_simp; done)); (· (first | (go_simp; with_reducible rfl) | (go_simp; done))); simp only [Act.put, List.setIfInBounds_toArray, List.set_cons_zero, List.set_cons_succ]) | (apply canN; (· rfl); (· (go_simp; done)); simp only [Act.put, List.setIfInBounds_toArray, List.set_cons_zero, List.set_cons_succ]) | (apply canN1; (· rfl); (· (go_simp; done)); simp only [Act.put, List.setIfInBounds_toArray, List.set_cons_zero, List.set_cons_succ])))
          refine canM rfl [] rfl rfl (fun u hu => by cases hu) ?_
          (repeat (first | (apply can0; (· rfl); (· rfl); (· (intro w'; first | (go_simp; with_reducible rfl) | (go_simp; done))); simp only [Act.put, List.setIfInBounds_toArray, List.set_cons_zero, List.set_cons_succ]) | (apply can1; (· rfl); (· rfl); (· (first | (go_simp; with_reducible rfl) | (go_simp; done))); simp only [Act.put, List.setIfInBounds_toArray, List.set_cons_zero, List.set_cons_succ]) | (apply canN; (· rfl); (· rfl); simp only [Act.put, List.setIfInBounds_toArray, List.set_cons_zero, List.set_cons_succ]) | (apply canN1; (· rfl); (· rfl); simp only [Act.put, List.setIfInBounds_toArray, List.set_cons_zero, List.set_cons_succ]) | (apply can0; (· rfl); (· (go_simp; done)); (· (intro w'; first | (go_simp; with_reducible rfl) | (go_simp; done))); simp only [Act.put, List.setIfInBounds_toArray, List.set_cons_zero, List.set_cons_succ]) | (apply can1; (· rfl); (· (go_simp; done)); (· (first | (go_simp; with_reducible rfl) | (go_simp; done))); simp only [Act.put, List.setIfInBounds_toArray, List.set_cons_zero, List.set_cons_succ]) | (apply canN; (· rfl); (· (go_simp; done)); simp only [Act.put, List.setIfInBounds_toArray, List.set_cons_zero, List.set_cons_succ]) | (apply canN1; (· rfl); (· (go_simp; done)); simp only [Act.put, List.setIfInBounds_toArray, List.set_cons_zero, List.set_cons_succ])))
          refine canE ?_
          go_wp2
          go_ret2
          exact ⟨HC.out, _, _, HR.out, .inr ⟨rfl, HN.out⟩⟩
        · have hk0' : ((k : Int) == 0) = false := by simp; omega
          obtain ⟨m, hm⟩ : ∃ m, Ce.may ⟨(cr : Int), (cf : Int), (cg : Int), (cb : Int), (cw : Int)⟩ = m := ⟨_, rfl⟩
          have HM := Lib.hid (rmaycell_any wA ⟨(cr : Int), (cf : Int), (cg : Int), (cb : Int), (cw : Int)⟩)
          rw [hm] at HM
          cases m with
          | false =>
            have HN : Hid (e ≠ 0 ∨ RP = none) := Lib.hid (HRN.out (by rw [hRQ]; exact if_pos (.inr hm)))
            clear hk0 hRQ hm
            (repeat (first | (apply can0; (· rfl); (· rfl); (· (intro w'; first | (go_simp; with_reducible rfl) | (go_simp; done))); simp only [Act.put, List.setIfInBounds_toArray, List.set_cons_zero, List.set_cons_succ]) | (apply can1; (· rfl); (· rfl); (· (first | (go_simp; with_reducible rfl) | (go_simp; done))); simp only [Act.put, List.setIfInBounds_toArray, List.set_cons_zero, List.set_cons_succ]) | (apply canN; (· rfl); (· rfl); simp only [Act.put, List.setIfInBounds_toArray, List.set_cons_zero, List.set_cons_succ]) | (apply canN1; (· rfl); (· rfl); simp only [Act.put, List.setIfInBounds_toArray, List.set_cons_zero, List.set_cons_succ]) | (apply can0; (· rfl); (· (go_simp; done)); (· (intro w'; first | (go_simp; with_reducible rfl) | (go_simp; done))); simp only [Act.put, List.setIfInBounds_toArray, List.set_cons_zero, List.set_cons_succ]) | (apply can1; (· rfl); (· (go_simp; done)); (· (first | (go_simp; with_reducible rfl) | (go_simp; done))); simp only [Act.put, List.setIfInBounds_toArray, List.set_cons_zero, List.set_cons_succ]) | (apply canN; (· rfl); (· (go_simp; done)); simp only [Act.put, List.setIfInBounds_toArray, List.set_cons_zero, List.set_cons_succ]) | (apply canN1; (· rfl); (· (go_simp; done)); simp only [Act.put, List.setIfInBounds_toArray, List.set_cons_zero, List.set_cons_succ])))
            refine canW rfl [] rfl (fun K hK => ?_)
            go_simp
            go_at_call 61
            refine HM.out.mono ?_
            rintro e' wB ⟨rfl, hck⟩
            replace HX := Lib.hid (HX.out.kept hck id)
            replace HR := Lib.hid (HR.out.kept hck)
            replace HL := Lib.hid (HL.out.kept hck)
            replace HC := Lib.hid (HC.out.trans hck (fun _ _ h => h.elim))
            clear hck
            (refine hK _ _ (fun u hu => by cases hu) ?_; clear hK K; try simp only [Act.put, List.setIfInBounds_toArray, List.set_cons_zero, List.set_cons_succ])
            (repeat (first | (apply can0; (· rfl); (· rfl); (· (intro w'; first | (go_simp; with_reducible rfl) | (go_simp; done))); simp only [Act.put, List.setIfInBounds_toArray, List.set_cons_zero, List.set_cons_succ]) | (apply can1; (· rfl); (· rfl); (· (first | (go_simp; with_reducible rfl) | (go_simp; done))); simp only [Act.put, List.setIfInBounds_toArray, List.set_cons_zero, List.set_cons_succ]) | (apply canN; (· rfl); (· rfl); simp only [Act.put, List.setIfInBounds_toArray, List.set_cons_zero, List.set_cons_succ]) | (apply canN1; (· rfl); (· rfl); simp only [Act.put, List.setIfInBounds_toArray, List.set_cons_zero, List.set_cons_succ]) | (apply can0; (· rfl); (· (go_simp; done)); (· (intro w'; first | (go_simp; with_reducible rfl) | (go_simp; done))); simp only [Act.put, List.setIfInBounds_toArray, List.set_cons_zero, List.set_cons_succ]) | (apply can1; (· rfl); (· (go_simp; done)); (· (first | (go_simp; with_reducible rfl) | (go_simp; done))); simp only [Act.put, List.setIfInBounds_toArray, List.set_cons_zero, List.set_cons_succ]) | (apply canN; (· rfl); (· (go_simp; done)); simp only [Act.put, List.setIfInBounds_toArray, List.set_cons_zero, List.set_cons_succ]) | (apply canN1; (· rfl); (· (go_simp; done)); simp only [Act.put, List.setIfInBounds_toArray, List.set_cons_zero, List.set_cons_succ])))
            refine canE ?_
            go_wp2
            go_ret2
            exact ⟨HC.out, _, _, HR.out, .inr ⟨rfl, HN.out⟩⟩
          | true =>
            have hsome : RQ = some (k, ⟨(cr : Int), (cf : Int), (cg : Int), (cb : Int), (cw : Int)⟩, B.drop q6) := by
              rw [hRQ]
              exact if_neg (fun h => h.elim hk0 (fun h => by rw [hm] at h; cases h))
            obtain ⟨hE0, hkp, hkn, hRPs⟩ := HRS.out _ _ _ hsome
            have HE0 := Lib.hid hE0
            have HRPs := Lib.hid hRPs
            clear hk0 hRQ hm hsome hE0 hRPs HE
            (repeat (first | (apply can0; (· rfl); (· rfl); (· (intro w'; first | (go_simp; with_reducible rfl) | (go_simp; done))); simp only [Act.put, List.setIfInBounds_toArray, List.set_cons_zero, List.set_cons_succ]) | (apply can1; (· rfl); (· rfl); (· (first | (go_simp; with_reducible rfl) | (go_simp; done))); simp only [Act.put, List.setIfInBounds_toArray, List.set_cons_zero, List.set_cons_succ]) | (apply canN; (· rfl); (· rfl); simp only [Act.put, List.setIfInBounds_toArray, List.set_cons_zero, List.set_cons_succ]) | (apply canN1; (· rfl); (· rfl); simp only [Act.put, List.setIfInBounds_toArray, List.set_cons_zero, List.set_cons_succ]) | (apply can0; (· rfl); (· (go_simp; done)); (· (intro w'; first | (go_simp; with_reducible rfl) | (go_simp; done))); simp only [Act.put, List.setIfInBounds_toArray, List.set_cons_zero, List.set_cons_succ]) | (apply can1; (· rfl); (· (go_simp; done)); (· (first | (go_simp; with_reducible rfl) | (go_simp; done))); simp only [Act.put, List.setIfInBounds_toArray, List.set_cons_zero, List.set_cons_succ]) | (apply canN; (· rfl); (· (go_simp; done)); simp only [Act.put, List.setIfInBounds_toArray, List.set_cons_zero, List.set_cons_succ]) | (apply canN1; (· rfl); (· (go_simp; done)); simp only [Act.put, List.setIfInBounds_toArray, List.set_cons_zero, List.set_cons_succ])))
            refine canW rfl [] rfl (fun K hK => ?_)
            go_simp
            go_at_call 61
            refine HM.out.mono ?_
            rintro e' wB ⟨rfl, hck⟩
            replace HX := Lib.hid (HX.out.kept hck id)
            replace HR := Lib.hid (HR.out.kept hck)
            replace HL := Lib.hid (HL.out.kept hck)
            replace HC := Lib.hid (HC.out.trans hck (fun _ _ h => h.elim))
            clear hck x0 x1 x2 x3 x4 q0 q1 q2
            have x0 := HX.out.cell 0
            have x1 := HX.out.cell 1
            have x2 := HX.out.cell 2
            have x3 := HX.out.cell 3
            have x4 := HX.out.cell 4
            simp only [List.getElem?_toArray, List.getElem?_cons_zero, List.getElem?_cons_succ] at x0 x1 x2 x3 x4
            have q0 := HR.out.blk.cell 0
            have q1 := HR.out.blk.cell 1
            have q2 := HR.out.blk.cell 2
            simp only [List.getElem?_toArray, List.getElem?_cons_zero, List.getElem?_cons_succ] at q0 q1 q2
            (refine hK _ _ (fun u hu => by cases hu) ?_; clear hK K; try simp only [Act.put, List.setIfInBounds_toArray, List.set_cons_zero, List.set_cons_succ])
            by_cases ho : out = []
            · have ho0 : L = 0 := by rw [← HLen.out, ho]; rfl
              have HN : Hid (RP = cellsQ fu' n (out ++ List.replicate k ⟨cr, cf, cg, cb, cw⟩) (B.drop q6)) := Lib.hid (by rw [HRPs.out, if_neg (by rw [ho]; simp)])
              have hz : ((0 : Int) < (L : Int)) = False := eq_false (by omega)
              have hzn : (0 < L) = False := eq_false (by omega)
              clear ho ho0
              (repeat (first | (apply can0; (· rfl); (· rfl); (· (intro w'; first | (go_simp; with_reducible rfl) | (go_simp; done))); simp only [Act.put, List.setIfInBounds_toArray, List.set_cons_zero, List.set_cons_succ]) | (apply can1; (· rfl); (· rfl); (· (first | (go_simp; with_reducible rfl) | (go_simp; done))); simp only [Act.put, List.setIfInBounds_toArray, List.set_cons_zero, List.set_cons_succ]) | (apply canN; (· rfl); (· rfl); simp only [Act.put, List.setIfInBounds_toArray, List.set_cons_zero, List.set_cons_succ]) | (apply canN1; (· rfl); (· rfl); simp only [Act.put, List.setIfInBounds_toArray, List.set_cons_zero, List.set_cons_succ]) | (apply can0; (· rfl); (· (go_simp; done)); (· (intro w'; first | (go_simp; with_reducible rfl) | (go_simp; done))); simp only [Act.put, List.setIfInBounds_toArray, List.set_cons_zero, List.set_cons_succ]) | (apply can1; (· rfl); (· (go_simp; done)); (· (first | (go_simp; with_reducible rfl) | (go_simp; done))); simp only [Act.put, List.setIfInBounds_toArray, List.set_cons_zero, List.set_cons_succ]) | (apply canN; (· rfl); (· (go_simp; done)); simp only [Act.put, List.setIfInBounds_toArray, List.set_cons_zero, List.set_cons_succ]) | (apply canN1; (· rfl); (· (go_simp; done)); simp only [Act.put, List.setIfInBounds_toArray, List.set_cons_zero, List.set_cons_succ])))
              refine canE ?_
              clear x0 x1 x2 x3 x4 q0 q1 q2 hz hzn
              go_wp2_with fail
              go_loopw [6, 9] (fun lv iv wr => ∃ (j M : Nat) (a' : Option Addr) (c' : Nat), j ≤ k ∧ iv = .int .u64 j ∧ lv = .slice a' M c' ∧ Hid (M = L + j) ∧ Hid (Cs w wr (.slice a' M c') (out ++ List.replicate j ⟨(cr : Int), (cf : Int), (cg : Int), (cb : Int), (cw : Int)⟩)) ∧ Hid (RdD wr g u B q6 0) ∧ Hid (Blk wr ix 47 #[.int .i32 cr, .int .i64 cf, .int .i64 cg, .int .i64 cb, .int .i64 cw]) ∧ Hid (¬ blkOf (.slice a' M c') ix) ∧ Hid (Chg w wr (fun k => k = g))) (fun _ iv _ => k - (intOf iv).toNat)
              case atStart => exact ⟨0, L, _, c, Nat.zero_le _, rfl, rfl, Lib.hid rfl, Lib.hid (by rw [List.replicate_zero, List.append_nil]; exact HL.out), HR, HX, HNB, HC⟩
              case round =>
                clear HL HR HX HNB HC
                obtain ⟨j, M, a', c', hj, rfl, rfl, HM, HL, HR1, HX, HNB, HC⟩ := hrel
                by_cases hjk : j < k
                · have hji : (j : Int) < (k : Int) := by omega
                  have hj0 : (0 : Int) ≤ (j : Int) := by omega
                  have hwj : IntKind.u64.wrap ((j : Int) + 1) = ((j + 1 : Nat) : Int) := wraps_u64 _ (by omega) (by omega)
                  have x0 := HX.out.cell 0
                  have x1 := HX.out.cell 1
                  have x2 := HX.out.cell 2
                  have x3 := HX.out.cell 3
                  have x4 := HX.out.cell 4
                  simp only [List.getElem?_toArray, List.getElem?_cons_zero, List.getElem?_cons_succ] at x0 x1 x2 x3 x4
                  have HOW : Hid (Own wr 47 5 (.slice a' M c') M (cellsV (out ++ List.replicate j ⟨cr, cf, cg, cb, cw⟩))) := Lib.hid (by
                    have h := HL.out.1
                    rwa [show (out ++ List.replicate j (⟨cr, cf, cg, cb, cw⟩ : Ce)).length = M by rw [List.length_append, List.length_replicate, HLen.out, HM.out]] at h)
                  go_wp2_with (at_builtin; refine wpList_push rfl (.tmp 84) (.tmp 86) 22 rfl 47 (.agg #[.int .i32 0, .int .i64 0, .int .i64 0, .int .i64 0, .int .i64 0]) 5 40 i_cell u_cells rfl (by decide) (.slice a' M c') M _ rfl HOW.out 1 1 rfl rfl rfl (by unfold maxLen; have := HM.out; omega) (by have := HM.out; omega) ?_)
                  intro v' w5 ho hch hfo
                  have hrow := HR1.out.row HB0.out HL.out hch
                  have hlen2 : (out ++ List.replicate (j + 1) (⟨cr, cf, cg, cb, cw⟩ : Ce)).length = M + 1 := by rw [List.length_append, List.length_replicate, HLen.out, HM.out]; omega
                  have hcs : Cs w w5 v' (out ++ List.replicate (j + 1) ⟨cr, cf, cg, cb, cw⟩) := ⟨by
                    rw [hlen2, List.replicate_succ', ← List.append_assoc, cellsV_snoc]
                    exact ho, fun i hi => (hfo i hi).elim (fun h => HL.out.2 i h) (fun h => Nat.le_trans HC.out.size h)⟩
                  have hnb : ¬ blkOf v' ix := fun h => (hfo ix h).elim HNB.out (fun h => by have := HX.out.lt; omega)
                  have hx5 := HX.out.kept hch HNB.out
                  have hc5 : Chg w w5 (fun k => k = g) := HC.out.trans hch (fun i hi h => absurd (HL.out.2 i h) (by omega))
                  obtain ⟨a5, c5, e5, _⟩ := ho.form
                  subst e5
                  have HREL := Lib.hid (And.intro hcs (And.intro hrow (And.intro hx5 (And.intro hnb hc5))))
                  clear ho hch hfo hrow hlen2 hcs hnb hx5 hc5 x0 x1 x2 x3 x4
                  go_wp2
                  go_roundw
                  case rel => exact ⟨j + 1, M + 1, a5, c5, by omega, by go_num, rfl, Lib.hid (by have := HM.out; omega), Lib.hid HREL.out.1, Lib.hid HREL.out.2.1, Lib.hid HREL.out.2.2.1, Lib.hid HREL.out.2.2.2.1, Lib.hid HREL.out.2.2.2.2⟩
                  case measure => simp [intOf]; omega
                · obtain rfl : j = k := by omega
                  have hML := HM.out
                  have hfu := HF.out
                  have hMn : M ≤ n := by omega
                  have hMf : n ≤ M + fu' := by omega
                  have hML2 : L < M := by omega
                  clear hML hfu
                  go_wp2
                  go_roundw
                  case rel => exact ⟨fu', out ++ List.replicate j ⟨cr, cf, cg, cb, cw⟩, q6, M, a', c', rfl, hMn, Lib.hid (by rw [List.length_append, List.length_replicate, HLen.out, HM.out]), Lib.hid hMf, HL, HN, Lib.hid (by rw [HE0.out]; exact HR1.out), Lib.hid (.inl HE0.out), HC⟩
                  case measure => simp [lenV]; omega
            · obtain ⟨d, hd⟩ : ∃ d, out.getLast? = some d := ⟨out.getLast ho, List.getLast?_eq_some_getLast ho⟩
              have hdk : out[L - 1]? = some d := by rw [← hd, List.getLast?_eq_getElem?, HLen.out]
              have hpos : 0 < L := by rw [← HLen.out]; exact List.length_pos_iff.2 ho
              obtain ⟨m, hm⟩ : ∃ m, L = m + 1 := ⟨L - 1, by omega⟩
              have hz : ((0 : Int) < (L : Int)) = True := eq_true (by omega)
              have hzn : (0 < L) = True := eq_true (by omega)
              have hw1 : IntKind.i64.wrap ((L : Int) - 1) = (m : Int) := by simp only [IntKind.wrap, IntKind.bits, IntKind.signed]; simp; omega
              have hm0 : (0 : Int) ≤ (m : Int) := by omega
              have hm1 : (m : Int) < (L : Int) := by omega
              have hrd := HL.out.1.rd
              rw [HLen.out] at hrd
              obtain ⟨gl, ol, rfl, d0, d1, d2, d3, d4⟩ := hrd.cell5 hdk
              rw [show L - 1 = m by omega] at d0 d1 d2 d3 d4
              obtain ⟨qq, hq⟩ : ∃ q, eqC d ⟨cr, cf, cg, cb, cw⟩ = q := ⟨_, rfl⟩
              have HN : Hid (RP = if qq = true then none else cellsQ fu' n (out ++ List.replicate k ⟨cr, cf, cg, cb, cw⟩) (B.drop q6)) := Lib.hid (by
                rw [HRPs.out]
                simp only [hd]
                cases qq with
                | true => simp [eqC_t hq]
                | false => simp [eqC_f hq])
              obtain ⟨dr, df, dg, db, dw⟩ := d
              simp only at d0 d1 d2 d3 d4
              clear ho hd hdk hrd hpos hm
              cases qq with
              | true =>
                (repeat (first | (apply can0; (· rfl); (· rfl); (· (intro w'; first | (go_simp; with_reducible rfl) | (go_simp; done))); simp only [Act.put, List.setIfInBounds_toArray, List.set_cons_zero, List.set_cons_succ]) | (apply can1; (· rfl); (· rfl); (· (first | (go_simp; with_reducible rfl) | (go_simp; done))); simp only [Act.put, List.setIfInBounds_toArray, List.set_cons_zero, List.set_cons_succ]) | (apply canN; (· rfl); (· rfl); simp only [Act.put, List.setIfInBounds_toArray, List.set_cons_zero, List.set_cons_succ]) | (apply canN1; (· rfl); (· rfl); simp only [Act.put, List.setIfInBounds_toArray, List.set_cons_zero, List.set_cons_succ]) | (apply can0; (· rfl); (· (go_simp; done)); (· (intro w'; first | (go_simp; with_reducible rfl) | (go_simp; done))); simp only [Act.put, List.setIfInBounds_toArray, List.set_cons_zero, List.set_cons_succ]) | (apply can1; (· rfl); (· (go_simp; done)); (· (first | (go_simp; with_reducible rfl) | (go_simp; done))); simp only [Act.put, List.setIfInBounds_toArray, List.set_cons_zero, List.set_cons_succ]) | (apply canN; (· rfl); (· (go_simp; done)); simp only [Act.put, List.setIfInBounds_toArray, List.set_cons_zero, List.set_cons_succ]) | (apply canN1; (· rfl); (· (go_simp; done)); simp only [Act.put, List.setIfInBounds_toArray, List.set_cons_zero, List.set_cons_succ])))
                refine canE ?_
                go_wp2
                go_ret2
                exact ⟨HC.out, _, _, HR.out, .inr ⟨rfl, .inr (HN.out.trans (if_pos (by trivial)))⟩⟩
              | false =>
                replace HN : Hid (RP = cellsQ fu' n (out ++ List.replicate k ⟨cr, cf, cg, cb, cw⟩) (B.drop q6)) := Lib.hid (HN.out.trans (if_neg (by simp)))
                (repeat (first | (apply can0; (· rfl); (· rfl); (· (intro w'; first | (go_simp; with_reducible rfl) | (go_simp; done))); simp only [Act.put, List.setIfInBounds_toArray, List.set_cons_zero, List.set_cons_succ]) | (apply can1; (· rfl); (· rfl); (· (first | (go_simp; with_reducible rfl) | (go_simp; done))); simp only [Act.put, List.setIfInBounds_toArray, List.set_cons_zero, List.set_cons_succ]) | (apply canN; (· rfl); (· rfl); simp only [Act.put, List.setIfInBounds_toArray, List.set_cons_zero, List.set_cons_succ]) | (apply canN1; (· rfl); (· rfl); simp only [Act.put, List.setIfInBounds_toArray, List.set_cons_zero, List.set_cons_succ]) | (apply can0; (· rfl); (· (go_simp; done)); (· (intro w'; first | (go_simp; with_reducible rfl) | (go_simp; done))); simp only [Act.put, List.setIfInBounds_toArray, List.set_cons_zero, List.set_cons_succ]) | (apply can1; (· rfl); (· (go_simp; done)); (· (first | (go_simp; with_reducible rfl) | (go_simp; done))); simp only [Act.put, List.setIfInBounds_toArray, List.set_cons_zero, List.set_cons_succ]) | (apply canN; (· rfl); (· (go_simp; done)); simp only [Act.put, List.setIfInBounds_toArray, List.set_cons_zero, List.set_cons_succ]) | (apply canN1; (· rfl); (· (go_simp; done)); simp only [Act.put, List.setIfInBounds_toArray, List.set_cons_zero, List.set_cons_succ])))
                refine canE ?_
                clear d0 d1 d2 d3 d4
                clear x0 x1 x2 x3 x4 q0 q1 q2 hz hzn
                go_wp2_with fail
                go_loopw [6, 9] (fun lv iv wr => ∃ (j M : Nat) (a' : Option Addr) (c' : Nat), j ≤ k ∧ iv = .int .u64 j ∧ lv = .slice a' M c' ∧ Hid (M = L + j) ∧ Hid (Cs w wr (.slice a' M c') (out ++ List.replicate j ⟨(cr : Int), (cf : Int), (cg : Int), (cb : Int), (cw : Int)⟩)) ∧ Hid (RdD wr g u B q6 0) ∧ Hid (Blk wr ix 47 #[.int .i32 cr, .int .i64 cf, .int .i64 cg, .int .i64 cb, .int .i64 cw]) ∧ Hid (¬ blkOf (.slice a' M c') ix) ∧ Hid (Chg w wr (fun k => k = g))) (fun _ iv _ => k - (intOf iv).toNat)
                case atStart => exact ⟨0, L, _, c, Nat.zero_le _, rfl, rfl, Lib.hid rfl, Lib.hid (by rw [List.replicate_zero, List.append_nil]; exact HL.out), HR, HX, HNB, HC⟩
                case round =>
                  clear HL HR HX HNB HC
                  obtain ⟨j, M, a', c', hj, rfl, rfl, HM, HL, HR1, HX, HNB, HC⟩ := hrel
                  by_cases hjk : j < k
                  · have hji : (j : Int) < (k : Int) := by omega
                    have hj0 : (0 : Int) ≤ (j : Int) := by omega
                    have hwj : IntKind.u64.wrap ((j : Int) + 1) = ((j + 1 : Nat) : Int) := wraps_u64 _ (by omega) (by omega)
                    have x0 := HX.out.cell 0
                    have x1 := HX.out.cell 1
                    have x2 := HX.out.cell 2
                    have x3 := HX.out.cell 3
                    have x4 := HX.out.cell 4
                    simp only [List.getElem?_toArray, List.getElem?_cons_zero, List.getElem?_cons_succ] at x0 x1 x2 x3 x4
                    have HOW : Hid (Own wr 47 5 (.slice a' M c') M (cellsV (out ++ List.replicate j ⟨cr, cf, cg, cb, cw⟩))) := Lib.hid (by
                      have h := HL.out.1
                      rwa [show (out ++ List.replicate j (⟨cr, cf, cg, cb, cw⟩ : Ce)).length = M by rw [List.length_append, List.length_replicate, HLen.out, HM.out]] at h)
                    go_wp2_with (at_builtin; refine wpList_push rfl (.tmp 84) (.tmp 86) 22 rfl 47 (.agg #[.int .i32 0, .int .i64 0, .int .i64 0, .int .i64 0, .int .i64 0]) 5 40 i_cell u_cells rfl (by decide) (.slice a' M c') M _ rfl HOW.out 1 1 rfl rfl rfl (by unfold maxLen; have := HM.out; omega) (by have := HM.out; omega) ?_)
                    intro v' w5 ho hch hfo
                    have hrow := HR1.out.row HB0.out HL.out hch
                    have hlen2 : (out ++ List.replicate (j + 1) (⟨cr, cf, cg, cb, cw⟩ : Ce)).length = M + 1 := by rw [List.length_append, List.length_replicate, HLen.out, HM.out]; omega
                    have hcs : Cs w w5 v' (out ++ List.replicate (j + 1) ⟨cr, cf, cg, cb, cw⟩) := ⟨by
                      rw [hlen2, List.replicate_succ', ← List.append_assoc, cellsV_snoc]
                      exact ho, fun i hi => (hfo i hi).elim (fun h => HL.out.2 i h) (fun h => Nat.le_trans HC.out.size h)⟩
                    have hnb : ¬ blkOf v' ix := fun h => (hfo ix h).elim HNB.out (fun h => by have := HX.out.lt; omega)
                    have hx5 := HX.out.kept hch HNB.out
                    have hc5 : Chg w w5 (fun k => k = g) := HC.out.trans hch (fun i hi h => absurd (HL.out.2 i h) (by omega))
                    obtain ⟨a5, c5, e5, _⟩ := ho.form
                    subst e5
                    have HREL := Lib.hid (And.intro hcs (And.intro hrow (And.intro hx5 (And.intro hnb hc5))))
                    clear ho hch hfo hrow hlen2 hcs hnb hx5 hc5 x0 x1 x2 x3 x4
                    go_wp2
                    go_roundw
                    case rel => exact ⟨j + 1, M + 1, a5, c5, by omega, by go_num, rfl, Lib.hid (by have := HM.out; omega), Lib.hid HREL.out.1, Lib.hid HREL.out.2.1, Lib.hid HREL.out.2.2.1, Lib.hid HREL.out.2.2.2.1, Lib.hid HREL.out.2.2.2.2⟩
                    case measure => simp [intOf]; omega
                  · obtain rfl : j = k := by omega
                    have hML := HM.out
                    have hfu := HF.out
                    have hMn : M ≤ n := by omega
                    have hMf : n ≤ M + fu' := by omega
                    have hML2 : L < M := by omega
                    clear hML hfu
                    go_wp2
                    go_roundw
                    case rel => exact ⟨fu', out ++ List.replicate j ⟨cr, cf, cg, cb, cw⟩, q6, M, a', c', rfl, hMn, Lib.hid (by rw [List.length_append, List.length_replicate, HLen.out, HM.out]), Lib.hid hMf, HL, HN, Lib.hid (by rw [HE0.out]; exact HR1.out), Lib.hid (.inl HE0.out), HC⟩
                    case measure => simp [lenV]; omega
      · have he6' : (e6 != 0) = true := by simpa using he6
        have HN : Hid (e ≠ 0 ∨ RP = none) := Lib.hid (HRN.out (by
          obtain ⟨h, _⟩ | ⟨_, h⟩ := HQ6.out
          · exact absurd h he6
          · exact h))
        clear he6
        (repeat (first | (apply can0; (· rfl); (· rfl); (· (intro w'; first | (go_simp; with_reducible rfl) | (go_simp; done))); simp only [Act.put, List.setIfInBounds_toArray, List.set_cons_zero, List.set_cons_succ]) | (apply can1; (· rfl); (· rfl); (· (first | (go_simp; with_reducible rfl) | (go_simp; done))); simp only [Act.put, List.setIfInBounds_toArray, List.set_cons_zero, List.set_cons_succ]) | (apply canN; (· rfl); (· rfl); simp only [Act.put, List.setIfInBounds_toArray, List.set_cons_zero, List.set_cons_succ]) | (apply canN1; (· rfl); (· rfl); simp only [Act.put, List.setIfInBounds_toArray, List.set_cons_zero, List.set_cons_succ]) | (apply can0; (· rfl); (· (go_simp; done)); (· (intro w'; first | (go_simp; with_reducible rfl) | (go_simp; done))); simp only [Act.put, List.setIfInBounds_toArray, List.set_cons_zero, List.set_cons_succ]) | (apply can1; (· rfl); (· (go_simp; done)); (· (first | (go_simp; with_reducible rfl) | (go_simp; done))); simp only [Act.put, List.setIfInBounds_toArray, List.set_cons_zero, List.set_cons_succ]) | (apply canN; (· rfl); (· (go_simp; done)); simp only [Act.put, List.setIfInBounds_toArray, List.set_cons_zero, List.set_cons_succ]) | (apply canN1; (· rfl); (· (go_simp; done)); simp only [Act.put, List.setIfInBounds_toArray, List.set_cons_zero, List.set_cons_succ])))
        refine canM rfl [] rfl rfl (fun u hu => by cases hu) ?_
        (repeat (first | (apply can0; (· rfl); (· rfl); (· (intro w'; first | (go_simp; with_reducible rfl) | (go_simp; done))); simp only [Act.put, List.setIfInBounds_toArray, List.set_cons_zero, List.set_cons_succ]) | (apply can1; (· rfl); (· rfl); (· (first | (go_simp; with_reducible rfl) | (go_simp; done))); simp only [Act.put, List.setIfInBounds_toArray, List.set_cons_zero, List.set_cons_succ]) | (apply canN; (· rfl); (· rfl); simp only [Act.put, List.setIfInBounds_toArray, List.set_cons_zero, List.set_cons_succ]) | (apply canN1; (· rfl); (· rfl); simp only [Act.put, List.setIfInBounds_toArray, List.set_cons_zero, List.set_cons_succ]) | (apply can0; (· rfl); (· (go_simp; done)); (· (intro w'; first | (go_simp; with_reducible rfl) | (go_simp; done))); simp only [Act.put, List.setIfInBounds_toArray, List.set_cons_zero, List.set_cons_succ]) | (apply can1; (· rfl); (· (go_simp; done)); (· (first | (go_simp; with_reducible rfl) | (go_simp; done))); simp only [Act.put, List.setIfInBounds_toArray, List.set_cons_zero, List.set_cons_succ]) | (apply canN; (· rfl); (· (go_simp; done)); simp only [Act.put, List.setIfInBounds_toArray, List.set_cons_zero, List.set_cons_succ]) | (apply canN1; (· rfl); (· (go_simp; done)); simp only [Act.put, List.setIfInBounds_toArray, List.set_cons_zero, List.set_cons_succ])))
        refine canE ?_
        go_wp2
        go_ret2
        exact ⟨HC.out, _, _, HR.out, .inr ⟨rfl, HN.out⟩⟩
    · obtain rfl : L = n := by omega
      have HRP : Hid (RP = some (out, B.drop q)) := Lib.hid (by
        rw [HQ1.out]
        cases fu with
        | zero => rw [cellsQ, if_pos (by rw [HLen.out]; exact Nat.le_refl _)]
        | succ f => rw [cellsQ, if_pos (by rw [HLen.out]; exact Nat.le_refl _)])
      go_wp2
      go_ret2
      exact ⟨HC.out, _, _, HR1.out, .inl ⟨rfl, HE.out.imp (fun h => h) (fun h => by rw [← HLen.out, h]; rfl), _, _, rfl, HL.out, HRP.out⟩⟩
end Go.Proofs.YtmbdpcamhkdkmaaGreatDoor
