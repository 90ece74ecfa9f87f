/-
  Package key: cells read, or given up.
  What makes one screen another one, in plain Lean: it does so, and it is the only text that does.
-/
import Derived.Test.YtmbdpcamhkdkmaaGreatDoorKReadM
import Derived.Test.YtmbdpcamhkdkmaaGreatDoorMg6
import Derived.Test.YtmbdpcamhkdkmaaGreatDoorDecM
namespace Go.Proofs.YtmbdpcamhkdkmaaGreatDoor
open Go.RowKit
set_option linter.unusedVariables false
set_option linter.unusedSimpArgs false

def lenV : Value → Nat
  | .slice _ n _ => n
  | _ => 0
/-- Cells of one's own, new since w. -/
def Cs (w wr : World) (v : Value) (l : List Ce) : Prop := Own wr 47 5 v l.length (cellsV l) ∧ ∀ k, blkOf v k → w.heap.size ≤ k
theorem Cs.nil (w wr : World) : Cs w wr (.slice none 0 0) [] := ⟨World.ownsRow_nil _ _ _ _, fun k hk => by cases hk⟩
section
variable {w wr w' : World} {v : Value} {l : List Ce} {g p : Nat} {u : Value} {B : List Int} {e : Int}
theorem Cs.kept (h : Cs w wr v l) (hc : Chg wr w' nob) : Cs w w' v l := ⟨h.1.kept hc (fun _ _ => id), h.2⟩
theorem Cs.rd (h : Cs w wr v l) (hr : RdrR wr g u B p e) (hc : Chg wr w' (fun k => k = g)) : Cs w w' v l := ⟨h.1.kept hc (fun k hk e => h.1.ne hr.blk (by decide) (by rwa [← e])), h.2⟩
theorem Cs.form (h : Cs w wr v l) : ∃ a c, v = .slice a l.length c ∧ l.length ≤ c := by
  obtain ⟨a, c, e, h1, _⟩ := h.1.form
  exact ⟨a, c, e, h1⟩
/-- A row of cells is no reader. -/
theorem RdrR.row (h : RdrR wr g u B p e) (hl : Cs w wr v l) (hc : Chg wr w' (blkOf v)) : RdrR w' g u B p e :=
  ⟨h.blk.kept hc (fun hk => hl.1.ne h.blk (by decide) hk), h.own.kept hc (fun k hk hf => by
    obtain ⟨c1, hb1⟩ := h.own.row hk
    exact hl.1.ne hb1 (by decide) hf), h.byte, h.le, h.big⟩
end
theorem cellsV_snoc (l : List Ce) (c : Ce) : cellsV (l ++ [c]) = cellsV l ++ c.cs := by simp [cellsV]
attribute [local go_sem ↓] ce_guard run_eql_ce run_neq_ce
set_option maxRecDepth 100000 in
set_option maxHeartbeats 4000000 in
theorem kread_any (w : World) (g : Nat) (u : Value) (B : List Int) (p : Nat) (e : Int) (h : RdrR w g u B p e) (n : Nat) (hn : n ≤ 100000) (ht : Tab w) :
    Calls Tryz.prog 80 #[ptr g, .int .i64 n] w fun e' w' => Chg w w' (fun k => k = g) ∧ ∃ q er, RdrR w' g u B q er ∧ ((er = e ∧ (e = 0 ∨ n = 0) ∧ ∃ v cs, e' = .returned v ∧ Cs w w' v cs ∧ cellsF n (B.drop p) = some (cs, B.drop q)) ∨ (e' = kstop ∧ (e ≠ 0 ∨ cellsF n (B.drop p) = none))) := by
  have HR := Lib.hid h
  have HR0 := Lib.hid h
  have HT := Lib.hid ht
  obtain ⟨RP, hRP⟩ : ∃ R, cellsF n (B.drop p) = R := ⟨_, rfl⟩
  have HQ : Hid (RP = cellsQ n n [] (B.drop p)) := Lib.hid (by rw [← hRP]; rfl)
  rw [hRP]
  clear h ht hRP
  go_enter Tryz.func80, Tryz.ntmps80
  go_wp2_with fail
  go_loopw [5] (fun lv wr => ∃ (fu : Nat) (out : List Ce) (q L : Nat) (a : Option Addr) (c : Nat), lv = .slice a L c ∧ L ≤ n ∧ Hid (out.length = L) ∧ Hid (n ≤ L + fu) ∧ Hid (Cs w wr (.slice a L c) out) ∧ Hid (RP = cellsQ fu n out (B.drop q)) ∧ Hid (RdrR wr g u B q e) ∧ Hid (e = 0 ∨ out = []) ∧ Hid (Chg w wr (fun k => k = g))) (fun lv _ => n - lenV lv)
  case atStart => exact ⟨n, [], p, 0, none, 0, rfl, Nat.zero_le _, Lib.hid rfl, Lib.hid (by simp), Lib.hid (Cs.nil w w), HQ, HR, Lib.hid (.inr rfl), Lib.hid (Chg.refl _ _)⟩
  case round =>
    obtain ⟨fu, out, q, L, a, c, rfl, hle, HLen, HF, HL, HQ1, HR1, HE, HC⟩ := hrel
    clear HQ HR
    have h0 : (0 : Int) ≤ (L : Int) := by omega
    by_cases hlt : L < n
    · have hii : (L : Int) < (n : Int) := by omega
      obtain ⟨fu', rfl⟩ : ∃ f, fu = f + 1 := ⟨fu - 1, by have := HF.out; omega⟩
      have hsub : IntKind.i64.wrap ((n : Int) - (L : Int)) = ((n - L : Nat) : Int) := by simp only [IntKind.wrap, IntKind.bits, IntKind.signed]; simp; omega
      have HKR := Lib.hid (krun_any wr g u B q e HR1.out (n - L) (by omega) (HT.out.rd HR0.out HC.out))
      have HQ2 := HQ1.out
      rw [cellsQ, if_neg (by rw [HLen.out]; omega), HLen.out] at HQ2
      have HQ3 := Lib.hid HQ2
      clear HQ2 HQ1
      go_wp2_with fail
      go_at_call 95
      refine HKR.out.mono ?_
      rintro e' w2 ⟨hc, q2, er, hr, ⟨h1, h2, k, ce, rfl, h3⟩ | ⟨rfl, h3⟩⟩
      rotate_left
      · have HN : Hid (e ≠ 0 ∨ RP = none) := Lib.hid (h3.imp (fun h => h) (fun h => by rw [HQ3.out, h]))
        have HH := Lib.hid (And.intro (HC.out.trans hc (fun _ _ h => h)) hr)
        clear hc hr h3
        go_wp2
        exact ⟨rfl, HH.out.1, _, _, HH.out.2, .inr ⟨rfl, HN.out⟩⟩
      subst h1
      have hkb := runP_back (fun x hx => HR1.out.byte x (List.mem_of_mem_drop hx)) (by omega) h3
      rw [h3] at HQ3
      replace HL := Lib.hid (HL.out.rd HR1.out hc)
      replace HC := Lib.hid (HC.out.trans hc (fun _ _ h => h))
      replace HR1 := Lib.hid hr
      have HE0 := Lib.hid h2
      obtain ⟨_, hk0, hkn, _⟩ := hkb
      clear hc hr h2 h3 HKR HE hsub
      obtain ⟨cr, cf, cg, cb, cw⟩ := ce
      simp only [Ce.val]
      go_upto_region 4 with (fail)
      obtain ⟨w3, hw⟩ : ∃ W, w2.alloc (.cells #[.int .i32 cr, .int .i64 cf, .int .i64 cg, .int .i64 cb, .int .i64 cw] 47) = W := ⟨_, rfl⟩
      have hck : Chg w2 w3 nob := by rw [← hw]; exact (Chg.refl w2 nob).alloc _
      have HX : Hid (Blk w3 w2.heap.size 47 #[.int .i32 cr, .int .i64 cf, .int .i64 cg, .int .i64 cb, .int .i64 cw]) := Lib.hid (by rw [← hw]; exact Blk.new w2 _ _)
      rw [hw]
      clear hw
      have HNB : Hid (¬ blkOf (.slice a L c) w2.heap.size) := Lib.hid (fun hk => by have := HL.out.1.lt hk; omega)
      have HWS : Hid (w.heap.size ≤ w2.heap.size) := Lib.hid HC.out.size
      obtain ⟨ix, hix⟩ : ∃ i, w2.heap.size = i := ⟨_, rfl⟩
      rw [hix] at HX HNB HWS ⊢
      clear hix
      replace HR1 := Lib.hid (HR1.out.kept hck)
      replace HL := Lib.hid (HL.out.kept hck)
      replace HC := Lib.hid (HC.out.trans hck (fun _ _ h => h.elim))
      clear hck
      have x0 := HX.out.cell 0
      have x1 := HX.out.cell 1
      have x2 := HX.out.cell 2
      have x3 := HX.out.cell 3
      have x4 := HX.out.cell 4
      simp only [List.getElem?_toArray, List.getElem?_cons_zero, List.getElem?_cons_succ] at x0 x1 x2 x3 x4
      by_cases ho : out = []
      · have ho0 : L = 0 := by rw [← HLen.out, ho]; rfl
        have HN : Hid (RP = cellsQ fu' n (out ++ List.replicate k ⟨cr, cf, cg, cb, cw⟩) (B.drop q2)) := Lib.hid (by rw [HQ3.out]; simp only; rw [if_neg (by rw [ho]; simp)])
        have hz : ((0 : Int) < (L : Int)) = False := eq_false (by omega)
        have hzn : (0 < L) = False := eq_false (by omega)
        clear ho ho0
        go_quiet (fail)
        obtain ⟨w4, hw⟩ : ∃ W, w3.drewN nq = W := ⟨_, rfl⟩
        have hck : Chg w3 w4 nob := by rw [← hw]; exact (Chg.refl w3 nob).drewN _
        rw [hw]
        clear hw
        replace HR1 := Lib.hid (HR1.out.kept hck)
        replace HL := Lib.hid (HL.out.kept hck)
        replace HC := Lib.hid (HC.out.trans hck (fun _ _ h => h.elim))
        replace HX := Lib.hid (HX.out.kept hck (fun h => h))
        clear hck x0 x1 x2 x3 x4 hz hzn
        go_wp2_with fail
        go_loopw [5, 37] (fun lv iv wr => ∃ (j M : Nat) (a' : Option Addr) (c' : Nat), j ≤ k ∧ iv = .int .i64 j ∧ lv = .slice a' M c' ∧ Hid (M = L + j) ∧ Hid (Cs w wr (.slice a' M c') (out ++ List.replicate j ⟨cr, cf, cg, cb, cw⟩)) ∧ Hid (RdrR wr g u B q2 0) ∧ Hid (Blk wr ix 47 #[.int .i32 cr, .int .i64 cf, .int .i64 cg, .int .i64 cb, .int .i64 cw]) ∧ Hid (¬ blkOf (.slice a' M c') ix) ∧ Hid (Chg w wr (fun k => k = g))) (fun _ iv _ => k - (intOf iv).toNat)
        case atStart => exact ⟨0, L, _, c, Nat.zero_le _, rfl, rfl, Lib.hid rfl, Lib.hid (by rw [List.replicate_zero, List.append_nil]; exact HL.out), HR1, HX, HNB, HC⟩
        case round =>
          clear HL HR1 HX HNB HC
          obtain ⟨j, M, a', c', hj, rfl, rfl, HM, HL, HR1, HX, HNB, HC⟩ := hrel
          by_cases hjk : j < k
          · have hji : (j : Int) < (k : Int) := by omega
            have hj0 : (0 : Int) ≤ (j : Int) := by omega
            have x0 := HX.out.cell 0
            have x1 := HX.out.cell 1
            have x2 := HX.out.cell 2
            have x3 := HX.out.cell 3
            have x4 := HX.out.cell 4
            simp only [List.getElem?_toArray, List.getElem?_cons_zero, List.getElem?_cons_succ] at x0 x1 x2 x3 x4
            have HOW : Hid (Own wr 47 5 (.slice a' M c') M (cellsV (out ++ List.replicate j ⟨cr, cf, cg, cb, cw⟩))) := Lib.hid (by
              have h := HL.out.1
              rwa [show (out ++ List.replicate j (⟨cr, cf, cg, cb, cw⟩ : Ce)).length = M by rw [List.length_append, List.length_replicate, HLen.out, HM.out]] at h)
            go_wp2_with (at_builtin; refine wpList_push rfl (.tmp 39) (.tmp 41) 22 rfl 47 (.agg #[.int .i32 0, .int .i64 0, .int .i64 0, .int .i64 0, .int .i64 0]) 5 40 i_cell u_cells rfl (by decide) (.slice a' M c') M _ rfl HOW.out 1 1 rfl rfl rfl (by unfold maxLen; have := HM.out; omega) (by have := HM.out; omega) ?_)
            intro v' w5 ho hch hfo
            have hrow := HR1.out.row HL.out hch
            have hlen2 : (out ++ List.replicate (j + 1) (⟨cr, cf, cg, cb, cw⟩ : Ce)).length = M + 1 := by rw [List.length_append, List.length_replicate, HLen.out, HM.out]; omega
            have hcs : Cs w w5 v' (out ++ List.replicate (j + 1) ⟨cr, cf, cg, cb, cw⟩) := ⟨by
              rw [hlen2, List.replicate_succ', ← List.append_assoc, cellsV_snoc]
              exact ho, fun i hi => (hfo i hi).elim (fun h => HL.out.2 i h) (fun h => Nat.le_trans HC.out.size h)⟩
            have hnb : ¬ blkOf v' ix := fun h => (hfo ix h).elim HNB.out (fun h => by have := HX.out.lt; omega)
            have hx5 := HX.out.kept hch HNB.out
            have hc5 : Chg w w5 (fun k => k = g) := HC.out.trans hch (fun i hi h => absurd (HL.out.2 i h) (by omega))
            obtain ⟨a5, c5, e5, _⟩ := ho.form
            subst e5
            have HREL := Lib.hid (And.intro hcs (And.intro hrow (And.intro hx5 (And.intro hnb hc5))))
            clear ho hch hfo hrow hlen2 hcs hnb hx5 hc5 x0 x1 x2 x3 x4
            go_wp2
            go_roundw
            case rel => exact ⟨j + 1, M + 1, a5, c5, by omega, by go_num, rfl, Lib.hid (by have := HM.out; omega), Lib.hid HREL.out.1, Lib.hid HREL.out.2.1, Lib.hid HREL.out.2.2.1, Lib.hid HREL.out.2.2.2.1, Lib.hid HREL.out.2.2.2.2⟩
            case measure => simp [intOf]; omega
          · obtain rfl : j = k := by omega
            have hML := HM.out
            have hfu := HF.out
            have hMn : M ≤ n := by omega
            have hMf : n ≤ M + fu' := by omega
            have hML2 : L < M := by omega
            clear hML hfu
            go_wp2
            go_roundw
            case rel => exact ⟨fu', out ++ List.replicate j ⟨cr, cf, cg, cb, cw⟩, q2, M, a', c', rfl, hMn, Lib.hid (by rw [List.length_append, List.length_replicate, HLen.out, HM.out]), Lib.hid hMf, HL, HN, Lib.hid (by rw [HE0.out]; exact HR1.out), Lib.hid (.inl HE0.out), HC⟩
            case measure => simp [lenV]; omega
      · obtain ⟨d, hd⟩ : ∃ d, out.getLast? = some d := ⟨out.getLast ho, List.getLast?_eq_some_getLast ho⟩
        have hdk : out[L - 1]? = some d := by rw [← hd, List.getLast?_eq_getElem?, HLen.out]
        have hpos : 0 < L := by rw [← HLen.out]; exact List.length_pos_iff.2 ho
        obtain ⟨m, hm⟩ : ∃ m, L = m + 1 := ⟨L - 1, by omega⟩
        have hz : ((0 : Int) < (L : Int)) = True := eq_true (by omega)
        have hzn : (0 < L) = True := eq_true (by omega)
        have hw1 : IntKind.i64.wrap ((L : Int) - 1) = (m : Int) := by simp only [IntKind.wrap, IntKind.bits, IntKind.signed]; simp; omega
        have hm0 : (0 : Int) ≤ (m : Int) := by omega
        have hm1 : (m : Int) < (L : Int) := by omega
        have hrd := HL.out.1.rd
        rw [HLen.out] at hrd
        obtain ⟨gl, ol, rfl, d0, d1, d2, d3, d4⟩ := hrd.cell5 hdk
        rw [show L - 1 = m by omega] at d0 d1 d2 d3 d4
        obtain ⟨qq, hq⟩ : ∃ q, eqC d ⟨cr, cf, cg, cb, cw⟩ = q := ⟨_, rfl⟩
        have HN : Hid (RP = if qq = true then none else cellsQ fu' n (out ++ List.replicate k ⟨cr, cf, cg, cb, cw⟩) (B.drop q2)) := Lib.hid (by
          rw [HQ3.out]
          simp only [hd]
          cases qq with
          | true => simp [eqC_t hq]
          | false => simp [eqC_f hq])
        obtain ⟨dr, df, dg, db, dw⟩ := d
        simp only at d0 d1 d2 d3 d4
        clear ho hd hdk hrd hpos hm
        cases qq with
        | true =>
          go_quiet (fail)
          obtain ⟨w4, hw⟩ : ∃ W, w3.drewN nq = W := ⟨_, rfl⟩
          have hck : Chg w3 w4 nob := by rw [← hw]; exact (Chg.refl w3 nob).drewN _
          rw [hw]
          clear hw
          go_wp2
          exact ⟨rfl, HC.out.trans hck (fun _ _ h => h.elim), _, _, HR1.out.kept hck, .inr ⟨rfl, .inr (HN.out.trans (if_pos trivial))⟩⟩
        | false =>
          replace HN : Hid (RP = cellsQ fu' n (out ++ List.replicate k ⟨cr, cf, cg, cb, cw⟩) (B.drop q2)) := Lib.hid (HN.out.trans (if_neg (by simp)))
          go_quiet (fail)
          obtain ⟨w4, hw⟩ : ∃ W, w3.drewN nq = W := ⟨_, rfl⟩
          have hck : Chg w3 w4 nob := by rw [← hw]; exact (Chg.refl w3 nob).drewN _
          rw [hw]
          clear hw
          replace HR1 := Lib.hid (HR1.out.kept hck)
          replace HL := Lib.hid (HL.out.kept hck)
          replace HC := Lib.hid (HC.out.trans hck (fun _ _ h => h.elim))
          replace HX := Lib.hid (HX.out.kept hck (fun h => h))
          clear hck x0 x1 x2 x3 x4 hz hzn
          go_wp2_with fail
          go_loopw [5, 37] (fun lv iv wr => ∃ (j M : Nat) (a' : Option Addr) (c' : Nat), j ≤ k ∧ iv = .int .i64 j ∧ lv = .slice a' M c' ∧ Hid (M = L + j) ∧ Hid (Cs w wr (.slice a' M c') (out ++ List.replicate j ⟨cr, cf, cg, cb, cw⟩)) ∧ Hid (RdrR wr g u B q2 0) ∧ Hid (Blk wr ix 47 #[.int .i32 cr, .int .i64 cf, .int .i64 cg, .int .i64 cb, .int .i64 cw]) ∧ Hid (¬ blkOf (.slice a' M c') ix) ∧ Hid (Chg w wr (fun k => k = g))) (fun _ iv _ => k - (intOf iv).toNat)
          case atStart => exact ⟨0, L, _, c, Nat.zero_le _, rfl, rfl, Lib.hid rfl, Lib.hid (by rw [List.replicate_zero, List.append_nil]; exact HL.out), HR1, HX, HNB, HC⟩
          case round =>
            clear HL HR1 HX HNB HC
            obtain ⟨j, M, a', c', hj, rfl, rfl, HM, HL, HR1, HX, HNB, HC⟩ := hrel
            by_cases hjk : j < k
            · have hji : (j : Int) < (k : Int) := by omega
              have hj0 : (0 : Int) ≤ (j : Int) := by omega
              have x0 := HX.out.cell 0
              have x1 := HX.out.cell 1
              have x2 := HX.out.cell 2
              have x3 := HX.out.cell 3
              have x4 := HX.out.cell 4
              simp only [List.getElem?_toArray, List.getElem?_cons_zero, List.getElem?_cons_succ] at x0 x1 x2 x3 x4
              have HOW : Hid (Own wr 47 5 (.slice a' M c') M (cellsV (out ++ List.replicate j ⟨cr, cf, cg, cb, cw⟩))) := Lib.hid (by
                have h := HL.out.1
                rwa [show (out ++ List.replicate j (⟨cr, cf, cg, cb, cw⟩ : Ce)).length = M by rw [List.length_append, List.length_replicate, HLen.out, HM.out]] at h)
              go_wp2_with (at_builtin; refine wpList_push rfl (.tmp 39) (.tmp 41) 22 rfl 47 (.agg #[.int .i32 0, .int .i64 0, .int .i64 0, .int .i64 0, .int .i64 0]) 5 40 i_cell u_cells rfl (by decide) (.slice a' M c') M _ rfl HOW.out 1 1 rfl rfl rfl (by unfold maxLen; have := HM.out; omega) (by have := HM.out; omega) ?_)
              intro v' w5 ho hch hfo
              have hrow := HR1.out.row HL.out hch
              have hlen2 : (out ++ List.replicate (j + 1) (⟨cr, cf, cg, cb, cw⟩ : Ce)).length = M + 1 := by rw [List.length_append, List.length_replicate, HLen.out, HM.out]; omega
              have hcs : Cs w w5 v' (out ++ List.replicate (j + 1) ⟨cr, cf, cg, cb, cw⟩) := ⟨by
                rw [hlen2, List.replicate_succ', ← List.append_assoc, cellsV_snoc]
                exact ho, fun i hi => (hfo i hi).elim (fun h => HL.out.2 i h) (fun h => Nat.le_trans HC.out.size h)⟩
              have hnb : ¬ blkOf v' ix := fun h => (hfo ix h).elim HNB.out (fun h => by have := HX.out.lt; omega)
              have hx5 := HX.out.kept hch HNB.out
              have hc5 : Chg w w5 (fun k => k = g) := HC.out.trans hch (fun i hi h => absurd (HL.out.2 i h) (by omega))
              obtain ⟨a5, c5, e5, _⟩ := ho.form
              subst e5
              have HREL := Lib.hid (And.intro hcs (And.intro hrow (And.intro hx5 (And.intro hnb hc5))))
              clear ho hch hfo hrow hlen2 hcs hnb hx5 hc5 x0 x1 x2 x3 x4
              go_wp2
              go_roundw
              case rel => exact ⟨j + 1, M + 1, a5, c5, by omega, by go_num, rfl, Lib.hid (by have := HM.out; omega), Lib.hid HREL.out.1, Lib.hid HREL.out.2.1, Lib.hid HREL.out.2.2.1, Lib.hid HREL.out.2.2.2.1, Lib.hid HREL.out.2.2.2.2⟩
              case measure => simp [intOf]; omega
            · obtain rfl : j = k := by omega
              have hML := HM.out
              have hfu := HF.out
              have hMn : M ≤ n := by omega
              have hMf : n ≤ M + fu' := by omega
              have hML2 : L < M := by omega
              clear hML hfu
              go_wp2
              go_roundw
              case rel => exact ⟨fu', out ++ List.replicate j ⟨cr, cf, cg, cb, cw⟩, q2, M, a', c', rfl, hMn, Lib.hid (by rw [List.length_append, List.length_replicate, HLen.out, HM.out]), Lib.hid hMf, HL, HN, Lib.hid (by rw [HE0.out]; exact HR1.out), Lib.hid (.inl HE0.out), HC⟩
              case measure => simp [lenV]; omega
    · obtain rfl : L = n := by omega
      have HRP : Hid (RP = some (out, B.drop q)) := Lib.hid (by
        rw [HQ1.out]
        cases fu with
        | zero => rw [cellsQ, if_pos (by rw [HLen.out]; exact Nat.le_refl _)]
        | succ f => rw [cellsQ, if_pos (by rw [HLen.out]; exact Nat.le_refl _)])
      go_wp2
      go_ret
      exact ⟨HC.out, _, _, HR1.out, .inl ⟨rfl, HE.out.imp (fun h => h) (fun h => by rw [← HLen.out, h]; rfl), _, _, rfl, HL.out, HRP.out⟩⟩
end Go.Proofs.YtmbdpcamhkdkmaaGreatDoor

namespace Go.Proofs.YtmbdpcamhkdkmaaGreatDoor
open Go.RowKit
set_option linter.unusedVariables false
set_option linter.unusedSimpArgs false

/-- How many of the first cells differ. -/
def difLen : List Ce → List Ce → Nat
  | a :: s, b :: t => if a = b then 0 else difLen s t + 1
  | _, _ => 0
theorem difLen_le : ∀ (s t : List Ce), difLen s t ≤ s.length ∧ difLen s t ≤ t.length
  | [], _ => ⟨Nat.le_refl _, Nat.zero_le _⟩
  | _ :: _, [] => ⟨Nat.zero_le _, Nat.le_refl _⟩
  | a :: s, b :: t => by
    have h := difLen_le s t
    unfold difLen
    split
    · exact ⟨Nat.zero_le _, Nat.zero_le _⟩
    · simp; omega
/-- The stretches of cells that differ; so many cells lie since the last one. -/
def strL (gap : Nat) (s t : List Ce) : List Int :=
  match s, t with
  | a :: s', b :: t' => if a = b then strL (gap + 1) s' t' else varL gap ++ (varL (difLen s' t' + 1) ++ (runsL (b :: t'.take (difLen s' t')) ++ strL 0 (s'.drop (difLen s' t')) (t'.drop (difLen s' t'))))
  | _, _ => []
termination_by s.length
decreasing_by all_goals simp_wf; all_goals omega
/-- The stretches laid: from place p of the cells b on. -/
def laysQ : Nat → Nat → List Ce → List Int → Option (List Ce)
  | 0, _, b, l => if l = [] then some b else none
  | fu + 1, p, b, l => if l = [] then some b else
    (numM (b.length - p) l).bind fun g => (numM (b.length - (p + g.1)) g.2).bind fun n => (cellsF n.1 n.2).bind fun z =>
      laysQ fu (p + g.1 + n.1) (b.take (p + g.1) ++ (z.1 ++ b.drop (p + g.1 + n.1))) z.2
theorem numP_nil {m : Nat} : numM m [] = none := by
  unfold numM numP numG
  simp
theorem strL_nil (gap : Nat) (t : List Ce) : strL gap [] t = [] := by rw [strL]; intros; simp_all
theorem strL_same {gap : Nat} {s t : List Ce} {a : Ce} : strL gap (a :: s) (a :: t) = strL (gap + 1) s t := by rw [strL, if_pos rfl]
theorem strL_other {gap : Nat} {s t : List Ce} {a b : Ce} (h : a ≠ b) : strL gap (a :: s) (b :: t) = varL gap ++ (varL (difLen s t + 1) ++ (runsL (b :: t.take (difLen s t)) ++ strL 0 (s.drop (difLen s t)) (t.drop (difLen s t)))) := by rw [strL, if_neg h]
theorem runsL_pos {c : Ce} {t : List Ce} : runsL (c :: t) ≠ [] := by
  rw [runsL]
  have := varL_pos' (u64N (runLen c t + 1 : Nat))
  intro h
  have h1 := congrArg List.length h
  simp only [varsL, ceN, List.flatMap_cons, List.length_append, List.length_nil] at h1
  omega
/-- From the cells of a, with those of b laid up to p, the text that is left makes the cells of b. -/
theorem lays_there : ∀ (m : Nat) (s t q : List Ce) (gap : Nat) (fu : Nat), s.length = m → t.length = m → (strL gap s t).length ≤ fu → (∀ c ∈ t, c.may = true) → gap ≤ q.length → q.length + m < 9223372036854775808 →
    laysQ fu (q.length - gap) (q ++ s) (strL gap s t) = some (q ++ t) := by
  intro m
  induction m using Nat.strongRecOn with
  | ind m ih =>
    intro s t q gap fu hs ht hfu hm hg hbig
    cases s with
    | nil =>
      obtain rfl : t = [] := List.length_eq_zero_iff.1 (by simp at hs; omega)
      rw [strL_nil]
      cases fu <;> simp [laysQ]
    | cons a s =>
      cases t with
      | nil => simp at hs ht; omega
      | cons b t =>
        simp only [List.length_cons] at hs ht
        by_cases hab : a = b
        · subst hab
          rw [strL_same] at hfu ⊢
          have h := ih s.length (by omega) s t (q ++ [a]) (gap + 1) fu rfl (by omega) hfu (fun c hc => hm c (List.mem_cons_of_mem _ hc)) (by simp; omega) (by simp; omega)
          have e1 : (q ++ [a]).length - (gap + 1) = q.length - gap := by simp
          rw [e1] at h
          simpa using h
        · rw [strL_other hab] at hfu ⊢
          obtain ⟨d, hd⟩ : ∃ d, difLen s t = d := ⟨_, rfl⟩
          have hdl := difLen_le s t
          rw [hd] at hfu hdl ⊢
          have hne : varL gap ++ (varL (d + 1) ++ (runsL (b :: t.take d) ++ strL 0 (s.drop d) (t.drop d))) ≠ [] := by
            intro h
            have h1 := congrArg List.length h
            have := varL_pos' gap
            simp only [List.length_append, List.length_nil] at h1
            omega
          have hr := List.length_pos_iff.2 (runsL_pos (c := b) (t := t.take d))
          have hfu0 : 0 < fu := by
            have := varL_pos' gap
            rw [List.length_append] at hfu
            omega
          obtain ⟨fu, rfl⟩ : ∃ f, fu = f + 1 := ⟨fu - 1, by omega⟩
          rw [laysQ, if_neg hne]
          have hql : (q ++ a :: s).length = q.length + s.length + 1 := by simp; omega
          rw [numM_var (by omega) (by omega), Option.bind_some]
          simp only
          rw [numM_var (by omega) (by omega), Option.bind_some]
          simp only
          have hcl : (b :: t.take d).length = d + 1 := by simp; omega
          rw [← hcl, cellsF_there (by omega) (fun c hc => by
            rcases List.mem_cons.1 hc with rfl | hc
            · exact hm c (List.mem_cons_self ..)
            · exact hm c (List.mem_cons_of_mem _ (List.mem_of_mem_take hc)))]
          rw [Option.bind_some]
          simp only [hcl]
          have e0 : q.length - gap + gap = q.length := by omega
          rw [e0]
          have e1 : (q ++ a :: s).take q.length = q := by simp
          have e2 : (q ++ a :: s).drop (q.length + (d + 1)) = s.drop d := by
            rw [← List.drop_drop, List.drop_left, List.drop_succ_cons]
          rw [e1, e2]
          have h := ih (s.drop d).length (by simp; omega) (s.drop d) (t.drop d) (q ++ b :: t.take d) 0 fu rfl (by simp; omega) (by
            have := varL_pos' gap
            simp only [List.length_append] at hfu
            omega) (fun c hc => hm c (List.mem_cons_of_mem _ (List.mem_of_mem_drop hc))) (Nat.zero_le _) (by simp; omega)
          have e3 : (q ++ b :: t.take d).length = q.length + (d + 1) := by simp; omega
          rw [Nat.sub_zero, e3] at h
          simp only [List.append_assoc, List.cons_append, List.take_append_drop] at h ⊢
          exact h
/-- All but the cells. -/
def headD (b : Sc) : List Int := varL (u64N b.y) ++ (varL (u64N b.x) ++ (varL (bitN b.h) ++ (varL (u64N b.t.size) ++ numsS b.t)))
def diffL (a b : Sc) : List Int := if a.r ≠ b.r ∨ a.c ≠ b.c then 1 :: b.key else 0 :: (headD b ++ strL 0 a.l b.l)
def changedQ (a : Sc) (l : List Int) : Option Sc :=
  (numM 60 l).bind fun y => (numM 200 y.2).bind fun x => (numM 1 x.2).bind fun h => (textQ 256 h.2).bind fun t => (laysQ t.2.length 0 a.l t.2).bind fun z =>
    some ⟨a.r, a.c, z, y.1, x.1, decide (h.1 = 1), t.1⟩
def partQ (a : Sc) (d : List Int) : Option Sc :=
  match d with
  | [] => none
  | k :: l => if k = 1 then decQ 256 l else if k = 0 then changedQ a l else none
/-- The screen that is made of one. -/
def applyQ (a : Sc) (d : List Int) : Option Sc := (partQ a d).bind fun b => if b.may = true ∧ diffL a b = d then some b else none
theorem applyQ_there {a b : Sc} (ha : a.may = true) (hb : b.may = true) : applyQ a (diffL a b) = some b := by
  have h : partQ a (diffL a b) = some b := by
    unfold diffL
    split
    · simp only [partQ, if_pos rfl]
      exact decQ_there hb
    · rename_i hs
      obtain ⟨⟨r1, r2⟩, ⟨c1, c2⟩, ⟨y1, y2⟩, ⟨x1, x2⟩, hl, hc, ht⟩ := Sc.may_b hb
      have hla := (Sc.may_b ha).2.2.2.2.1
      obtain ⟨R, C, L, Y, X, H, T⟩ := b
      simp only at r1 r2 c1 c2 y1 y2 x1 x2 hl hc ht hs
      have hr : a.r = R := by omega
      have hcc : a.c = C := by omega
      simp only [partQ, show ((0 : Int) = 1) = False from by simp, if_false, if_pos rfl, headD]
      have eT : u64N (T.size : Int) = T.size := by rw [u64N_toNat (by omega) (by omega)]; omega
      rw [u64N_toNat (n := Y) (by omega) (by omega), u64N_toNat (n := X) (by omega) (by omega), eT]
      simp only [List.append_assoc]
      unfold changedQ
      rw [numM_var (by omega) (by omega), Option.bind_some]
      simp only
      rw [numM_var (by omega) (by omega), Option.bind_some]
      simp only
      rw [numM_var (by have := bitN_b H; omega) (bitN_b H), Option.bind_some]
      simp only
      rw [textQ_there ht (by omega), Option.bind_some]
      simp only
      have hll : a.l.length = L.length := by rw [hr, hcc] at hla; omega
      have hsm : L.length < 9223372036854775808 := by
        have : ((L.length : Nat) : Int) ≤ 60 * 200 := by rw [hl]; exact Int.mul_le_mul (by omega) (by omega) (by omega) (by omega)
        omega
      have h := lays_there a.l.length a.l L [] 0 (strL 0 a.l L).length rfl hll.symm (Nat.le_refl _) hc (Nat.le_refl _) (by simp; omega)
      simp only [List.length_nil, Nat.sub_zero, List.nil_append] at h
      rw [h, Option.bind_some, bit_back, Int.toNat_of_nonneg (by omega), Int.toNat_of_nonneg (by omega), hr, hcc]
      exact if_pos trivial
  unfold applyQ
  rw [h, Option.bind_some, if_pos ⟨hb, rfl⟩]
theorem applyQ_back {a b : Sc} {d : List Int} (h : applyQ a d = some b) : b.may = true ∧ diffL a b = d := by
  obtain ⟨b', h1, h2⟩ := Option.bind_eq_some_iff.1 h
  split at h2
  · rename_i hc
    cases h2
    exact hc
  · cases h2
theorem diffL_inj {a b c : Sc} (ha : a.may = true) (hb : b.may = true) (hc : c.may = true) (h : diffL a b = diffL a c) : b = c := by
  have h1 := applyQ_there ha hb
  rw [h, applyQ_there ha hc] at h1
  exact (Option.some.inj h1).symm
end Go.Proofs.YtmbdpcamhkdkmaaGreatDoor
