/-
  Package key: Decode.
-/
import Derived.Test.YtmbdpcamhkdkmaaGreatDoorMg26
import Derived.Test.YtmbdpcamhkdkmaaGreatDoorEncM
namespace Go.Proofs.YtmbdpcamhkdkmaaGreatDoor
open Go.RowKit
set_option linter.unusedVariables false
set_option linter.unusedSimpArgs false

def rq7 (r c y x h : Nat) (t : ByteArray) (l : List Int) : Option (Sc × List Int) := (cellsF (r * c) l).bind fun z => some (⟨r, c, z.1, y, x, decide (h = 1), t⟩, z.2)
def rq6 (r c y x h : Nat) (l : List Int) : Option (Sc × List Int) := (textQ 256 l).bind fun t => rq7 r c y x h t.1 t.2
def rq5 (r c y x : Nat) (l : List Int) : Option (Sc × List Int) := (numM 1 l).bind fun h => rq6 r c y x h.1 h.2
def rq4 (r c y : Nat) (l : List Int) : Option (Sc × List Int) := (numM 200 l).bind fun x => rq5 r c y x.1 x.2
def rq3 (r c : Nat) (l : List Int) : Option (Sc × List Int) := (numM 60 l).bind fun y => rq4 r c y.1 y.2
def rq2 (r : Nat) (l : List Int) : Option (Sc × List Int) := (numM 200 l).bind fun c => rq3 r c.1 c.2
theorem readQ_eq (l : List Int) : readQ 256 l = (numM 60 l).bind fun r => rq2 r.1 r.2 := rfl
/-- Where a reading stands: it goes on, or was given up. -/
def At (RQ : Option (Sc × List Int)) (e : Int) (F : Option (Sc × List Int)) : Prop := (e = 0 ∧ RQ = F) ∨ (e ≠ 0 ∧ RQ = none)
theorem At.num {RQ : Option (Sc × List Int)} {w w' : World} {g p : Nat} {u : Value} {B : List Int} {e : Int} {most n q : Nat} {e' : Int} {F : Nat × List Int → Option (Sc × List Int)}
    (h : At RQ e ((numM most (B.drop p)).bind F)) (hr : RdNum w w' g u B p e most n q e') : At RQ e' (F (n, B.drop q)) := by
  rcases hr.s with ⟨h1, h2, h3⟩ | ⟨h1, h2, h3⟩
  · rcases h with ⟨h4, h5⟩ | ⟨h4, h5⟩
    · exact .inl ⟨h1, by rw [h5, h3]; rfl⟩
    · exact absurd h2 h4
  · refine .inr ⟨h1, ?_⟩
    rcases h with ⟨h4, h5⟩ | ⟨h4, h5⟩
    · rcases h3 with h3 | h3
      · exact absurd h4 h3
      · rw [h5, h3]; rfl
    · exact h5
theorem At.text {RQ : Option (Sc × List Int)} {w w' : World} {g p : Nat} {u : Value} {B : List Int} {e : Int} {most q : Nat} {t : ByteArray} {e' : Int} {F : ByteArray × List Int → Option (Sc × List Int)}
    (h : At RQ e ((textQ most (B.drop p)).bind F)) (hr : RdText w w' g u B p e most t q e') : At RQ e' (F (t, B.drop q)) := by
  rcases hr.s with ⟨h1, h2, h3⟩ | ⟨h1, h2, h3⟩
  · rcases h with ⟨h4, h5⟩ | ⟨h4, h5⟩
    · exact .inl ⟨h1, by rw [h5, h3]; rfl⟩
    · exact absurd h2 h4
  · refine .inr ⟨h1, ?_⟩
    rcases h with ⟨h4, h5⟩ | ⟨h4, h5⟩
    · rcases h3 with h3 | h3
      · exact absurd h4 h3
      · rw [h5, h3]; rfl
    · exact h5
theorem RdNum.le {w w' : World} {g p : Nat} {u : Value} {B : List Int} {e : Int} {most n q : Nat} {e' : Int} (hr : RdNum w w' g u B p e most n q e') : n ≤ most := by
  rcases hr.s with ⟨_, _, h3⟩ | ⟨_, h2, _⟩
  · obtain ⟨_, h, _⟩ := numM_back (fun x hx => hr.r.byte x (List.mem_of_mem_drop hx)) h3
    exact h
  · omega
theorem RdText.le {w w' : World} {g p : Nat} {u : Value} {B : List Int} {e : Int} {most q : Nat} {t : ByteArray} {e' : Int} (hr : RdText w w' g u B p e most t q e') : t.size ≤ most := by
  rcases hr.s with ⟨_, _, h3⟩ | ⟨_, h2, _⟩
  · obtain ⟨_, h, _⟩ := textQ_back (fun x hx => hr.r.byte x (List.mem_of_mem_drop hx)) h3
    exact h
  · subst h2; exact Nat.zero_le _
/-- No cells are no screen. -/
theorem no_cells {r c y x : Int} {t : ByteArray} : mayS r c [] y x t = false := by
  rw [← Bool.not_eq_true]
  intro h
  obtain ⟨⟨r1, _⟩, ⟨c1, _⟩, _, _, hl, _⟩ := Sc.may_b (s := ⟨r, c, [], y, x, false, t⟩) h
  simp only at r1 c1 hl
  have : (1 : Int) * 1 ≤ r * c := Int.mul_le_mul r1 c1 (by decide) (by omega)
  simp only [List.length_nil] at hl
  omega
/-- What comes of all: the cells that lie in the screen, whether it was read. -/
def Come (RQ : Option (Sc × List Int)) (s : Sc) : Prop := (∃ rest, RQ = some (s, rest)) ∨ (RQ = none ∧ s.l = [])
theorem Come.dec {B : List Int} {s : Sc} (hb : ∀ x ∈ B, 0 ≤ x ∧ x ≤ 255) (h : Come (readQ 256 B) s) : decQ 256 B = if s.may = true ∧ s.key = B then some s else none := by
  unfold decQ
  rcases h with ⟨rest, h⟩ | ⟨h, hl⟩
  · have hk := readQ_back (by decide) hb h
    rw [h, Option.bind_some]
    simp only
    by_cases hm : s.may = true
    · by_cases hr : rest = []
      · subst hr
        rw [List.append_nil] at hk
        rw [if_pos ⟨rfl, hm⟩, if_pos ⟨hm, hk.symm⟩]
      · rw [if_neg (fun h => hr h.1), if_neg (fun h => hr ?_)]
        have e := h.2
        rw [hk] at e
        exact (List.append_right_eq_self.1 e.symm)
    · rw [if_neg (fun h => hm h.2), if_neg (fun h => hm h.1)]
  · rw [h, Option.bind_none, if_neg]
    intro h
    have : s.may = false := by unfold Sc.may; rw [hl]; exact no_cells
    rw [this] at h
    exact absurd h.1 (by simp)
theorem key_byte (s : Sc) : ∀ x ∈ s.key, 0 ≤ x ∧ x ≤ 255 := by
  have hv : ∀ n, ∀ x ∈ varL n, 0 ≤ x ∧ x ≤ 255 := varL_byte
  have hr : ∀ (m : Nat) (l : List Ce), l.length ≤ m → ∀ x ∈ runsL l, 0 ≤ x ∧ x ≤ 255 := by
    intro m
    induction m with
    | zero =>
      intro l h x hx
      obtain rfl : l = [] := List.length_eq_zero_iff.1 (by omega)
      rw [runsL] at hx; cases hx
    | succ m ih =>
      intro l h x hx
      cases l with
      | nil => rw [runsL] at hx; cases hx
      | cons c t =>
        rw [runsL] at hx
        rcases List.mem_append.1 hx with hx | hx
        · obtain ⟨n, _, h⟩ := List.mem_flatMap.1 hx
          exact hv n x h
        · exact ih (t.drop (runLen c t)) (by simp at h ⊢; omega) x hx
  rw [key_eq]
  intro x hx
  rcases List.mem_append.1 hx with hx | hx
  · exact hv _ x hx
  rcases List.mem_append.1 hx with hx | hx
  · exact hv _ x hx
  rcases List.mem_append.1 hx with hx | hx
  · exact hv _ x hx
  rcases List.mem_append.1 hx with hx | hx
  · exact hv _ x hx
  rcases List.mem_append.1 hx with hx | hx
  · exact hv _ x hx
  rcases List.mem_append.1 hx with hx | hx
  · exact hv _ x hx
  rcases List.mem_append.1 hx with hx | hx
  · exact numsS_byte _ x hx
  · exact hr _ _ (Nat.le_refl _) x hx
/-- The cells that were read, or none. -/
theorem Come.cells {RQ : Option (Sc × List Int)} {w w' : World} {g : Nat} {u : Value} {B : List Int} {p : Nat} {e : Int} {r c y x h : Nat} {t : ByteArray} {e' : Ending} (hr : r ≤ 60) (hc : c ≤ 200) (ha : At RQ e (rq7 r c y x h t (B.drop p))) (hcl : RdCells w w' g u B p e ((r : Int) * (c : Int)) e') :
    ∃ v cs b q er, e' = .returned (.tuple #[v, .bool b]) ∧ Cs w w' v cs ∧ cs.length ≤ 12000 ∧ RdrR w' g u B q er ∧ Chg w w' (fun k => k = g) ∧ Come RQ ⟨r, c, cs, y, x, decide (h = 1), t⟩ := by
  obtain ⟨hch, q, er, hrd, hcase⟩ := hcl
  have hn : ((r : Int) * (c : Int)).toNat = r * c := by rw [← Int.natCast_mul, Int.toNat_natCast]
  have hb : ∀ z ∈ B.drop p, 0 ≤ z ∧ z ≤ 255 := fun z hz => hrd.byte z (List.mem_of_mem_drop hz)
  have hrc : r * c ≤ 60 * 200 := Nat.mul_le_mul hr hc
  rw [hn] at hcase
  rcases hcase with ⟨n0, n1, h1, h2, v, cs, rfl, h3, h4⟩ | ⟨rfl, h1⟩
  · obtain ⟨_, hlen, _⟩ := cellsF_back hb (by omega) h4
    refine ⟨v, cs, true, q, er, rfl, h3, by omega, hrd, hch, ?_⟩
    rcases ha with ⟨h5, h6⟩ | ⟨h5, h6⟩
    · left
      refine ⟨B.drop q, ?_⟩
      rw [h6, rq7, h4]
      rfl
    · right
      have h7 : r * c = 0 := by
        rcases h2 with h2 | h2
        · exact absurd h2 h5
        · rw [← Int.natCast_mul] at h2; omega
      exact ⟨h6, List.length_eq_zero_iff.1 (show cs.length = 0 by omega)⟩
  · refine ⟨_, [], false, q, er, rfl, Cs.nil _ _, Nat.zero_le _, hrd, hch, .inr ⟨?_, rfl⟩⟩
    rcases ha with ⟨h5, h6⟩ | ⟨h5, h6⟩
    · rcases h1 with h | h | h | h
      · rw [← Int.natCast_mul] at h; omega
      · rw [← Int.natCast_mul] at h; omega
      · exact absurd h5 h
      · rw [h6, rq7, h]; rfl
    · exact h6
set_option maxRecDepth 100000 in
set_option maxHeartbeats 4000000 in
theorem kdec_any (w : World) (va : Value) (B : List Int) (hb : By w va B) (hl : B.length ≤ 1000000) (ht : Tab w) :
    Calls Tryz.prog 26 #[va] w fun e' w' => Chg w w' nob ∧ ((∃ s v, decQ 256 B = some s ∧ e' = .returned (.tuple #[scV s.r s.c v s.y s.x s.h s.t, .int .i64 0]) ∧ Cs w w' v s.l) ∨ (decQ 256 B = none ∧ e' = .returned (.tuple #[scV 0 0 (.slice none 0 0) 0 0 false ⟨#[]⟩, .int .i64 2]))) := by
  have HB := Lib.hid hb
  have HT := Lib.hid ht
  obtain ⟨RQ, hRQ⟩ : ∃ R, readQ 256 B = R := ⟨_, rfl⟩
  have HQ : Hid (At RQ 0 ((numM 60 (B.drop 0)).bind fun r => rq2 r.1 r.2)) := Lib.hid (.inl ⟨rfl, by rw [← hRQ, List.drop_zero]; rfl⟩)
  have HD : Hid (∀ s, Come RQ s → decQ 256 B = if s.may = true ∧ s.key = B then some s else none) := Lib.hid (fun s h => Come.dec hb.byte (by rw [hRQ]; exact h))
  obtain ⟨DQ, hDQ⟩ : ∃ D, decQ 256 B = D := ⟨_, rfl⟩
  rw [hDQ] at HD ⊢
  clear hb ht hRQ hDQ
  go_enter Tryz.func26, Tryz.ntmps26
  go_upto_region 1 with (fail)
  obtain ⟨w1, hw⟩ : ∃ W, w.alloc (.cells #[.int .i64 0, .int .i64 0, .slice none 0 0, .int .i64 0, .int .i64 0, .bool false, .string ⟨#[]⟩] 24) = W := ⟨_, rfl⟩
  have hck : Chg w w1 nob := by rw [← hw]; exact (Chg.refl w nob).alloc _
  have hbk : Blk w1 w.heap.size 24 #[.int .i64 0, .int .i64 0, .slice none 0 0, .int .i64 0, .int .i64 0, .bool false, .string ⟨#[]⟩] := by rw [← hw]; exact Blk.new w _ _
  rw [hw]
  clear hw
  obtain ⟨ix, hix⟩ : ∃ i, w.heap.size = i := ⟨_, rfl⟩
  rw [hix] at hbk ⊢
  have HIX := Lib.hid hix
  have HX := Lib.hid hbk
  have HC := Lib.hid hck
  clear hix hbk hck
  go_wp2_with fail
  go_at_call 23
  refine (newrdr_any w1 va B (HB.out.kept HC.out) (by omega)).mono ?_
  rintro e' w2 ⟨g, u, rfl, hr, hck, hg, _⟩
  have HR := Lib.hid hr
  have HR0 := HR
  have HG : Hid (w.heap.size ≤ g) := Lib.hid (Nat.le_trans HC.out.size hg)
  replace HX := Lib.hid (HX.out.kept hck (fun h => h))
  replace HC := Lib.hid (HC.out.trans hck (fun _ _ h => h))
  clear hr hck hg
  go_wp2_with fail
  go_at_call 53
  refine (rdnum_any w2 g u B 0 0 HR.out 60).mono ?_
  rintro e' w3 ⟨r, p1, e1, rfl, hr⟩
  replace HQ : Hid (At RQ e1 _) := Lib.hid (HQ.out.num hr)
  replace HC := Lib.hid (HC.out.trans hr.c (fun i hi e => by have := HG.out; omega))
  replace HR := Lib.hid hr.r
  replace HX := Lib.hid (HX.out.rd HR0.out (by decide) hr.c)
  replace HR0 := HR
  have hler := hr.le
  clear hr
  go_wp2_with fail
  go_at_call 53
  refine (rdnum_any w3 g u B p1 e1 HR.out 200).mono ?_
  rintro e' w4 ⟨c, p2, e2, rfl, hr⟩
  replace HQ : Hid (At RQ e2 _) := Lib.hid (HQ.out.num hr)
  replace HC := Lib.hid (HC.out.trans hr.c (fun i hi e => by have := HG.out; omega))
  replace HR := Lib.hid hr.r
  replace HX := Lib.hid (HX.out.rd HR0.out (by decide) hr.c)
  replace HR0 := HR
  have hlec := hr.le
  clear hr
  go_wp2_with fail
  go_at_call 53
  refine (rdnum_any w4 g u B p2 e2 HR.out 60).mono ?_
  rintro e' w5 ⟨y, p3, e3, rfl, hr⟩
  replace HQ : Hid (At RQ e3 _) := Lib.hid (HQ.out.num hr)
  replace HC := Lib.hid (HC.out.trans hr.c (fun i hi e => by have := HG.out; omega))
  replace HR := Lib.hid hr.r
  replace HX := Lib.hid (HX.out.rd HR0.out (by decide) hr.c)
  replace HR0 := HR
  have hley := hr.le
  clear hr
  go_wp2_with fail
  go_at_call 53
  refine (rdnum_any w5 g u B p3 e3 HR.out 200).mono ?_
  rintro e' w6 ⟨x, p4, e4, rfl, hr⟩
  replace HQ : Hid (At RQ e4 _) := Lib.hid (HQ.out.num hr)
  replace HC := Lib.hid (HC.out.trans hr.c (fun i hi e => by have := HG.out; omega))
  replace HR := Lib.hid hr.r
  replace HX := Lib.hid (HX.out.rd HR0.out (by decide) hr.c)
  replace HR0 := HR
  have hlex := hr.le
  clear hr
  go_wp2_with fail
  go_at_call 53
  refine (rdnum_any w6 g u B p4 e4 HR.out 1).mono ?_
  rintro e' w7 ⟨h, p5, e5, rfl, hr⟩
  replace HQ : Hid (At RQ e5 _) := Lib.hid (HQ.out.num hr)
  replace HC := Lib.hid (HC.out.trans hr.c (fun i hi e => by have := HG.out; omega))
  replace HR := Lib.hid hr.r
  replace HX := Lib.hid (HX.out.rd HR0.out (by decide) hr.c)
  replace HR0 := HR
  have hleh := hr.le
  clear hr
  have hwr : IntKind.i64.wrap (r : Int) = (r : Int) := by simp only [IntKind.wrap, IntKind.bits, IntKind.signed]; simp; omega
  have hwc : IntKind.i64.wrap (c : Int) = (c : Int) := by simp only [IntKind.wrap, IntKind.bits, IntKind.signed]; simp; omega
  have hwy : IntKind.i64.wrap (y : Int) = (y : Int) := by simp only [IntKind.wrap, IntKind.bits, IntKind.signed]; simp; omega
  have hwx : IntKind.i64.wrap (x : Int) = (x : Int) := by simp only [IntKind.wrap, IntKind.bits, IntKind.signed]; simp; omega
  obtain ⟨bh, hbh⟩ : ∃ b, decide (h = 1) = b := ⟨_, rfl⟩
  have hbh2 : ((h : Int) == 1) = bh := by rw [← hbh, Bool.eq_iff_iff]; simp; omega
  go_wp2_with fail
  go_at_call 54
  refine (rdtext_any w7 g u B p5 e5 HR.out 256 (by decide)).mono ?_
  rintro e' w8 ⟨t, p6, e6, rfl, hr⟩
  replace HQ : Hid (At RQ e6 _) := Lib.hid (HQ.out.text hr)
  replace HC := Lib.hid (HC.out.trans hr.c (fun i hi e => by have := HG.out; omega))
  replace HR := Lib.hid hr.r
  replace HX := Lib.hid (HX.out.rd HR0.out (by decide) hr.c)
  replace HR0 := HR
  have hlet := hr.le
  clear hr
  go_upto_region 3 with (fail)
  obtain ⟨w9, hw⟩ : ∃ W, w8.alloc (.cells #[.int .i64 r, .int .i64 c, .slice none 0 0, .int .i64 y, .int .i64 x, .bool bh, .string t] 24) = W := ⟨_, rfl⟩
  have hck : Chg w8 w9 nob := by rw [← hw]; exact (Chg.refl w8 nob).alloc _
  have hbk : Blk w9 w8.heap.size 24 #[.int .i64 r, .int .i64 c, .slice none 0 0, .int .i64 y, .int .i64 x, .bool bh, .string t] := by rw [← hw]; exact Blk.new w8 _ _
  rw [hw]
  clear hw
  have HXY : Hid (ix ≠ w8.heap.size) := Lib.hid (by have := HX.out.lt; omega)
  have HIY : Hid (w.heap.size ≤ w8.heap.size) := Lib.hid HC.out.size
  obtain ⟨iy, hiy⟩ : ∃ i, w8.heap.size = i := ⟨_, rfl⟩
  rw [hiy] at hbk HXY HIY ⊢
  clear hiy
  have HY := Lib.hid hbk
  replace HR := Lib.hid (HR.out.kept hck)
  replace HX := Lib.hid (HX.out.kept hck (fun h => h))
  replace HC := Lib.hid (HC.out.trans hck (fun _ _ h => h))
  clear hck hbk hwr hwc hwy hwx
  have y0 := HY.out.cell 0
  have y1 := HY.out.cell 1
  have y2 := HY.out.cell 2
  simp only [List.getElem?_toArray, List.getElem?_cons_zero, List.getElem?_cons_succ] at y0 y1 y2
  have f2 := HY.out.free 2
  have hmul : IntKind.i64.wrap ((r : Int) * (c : Int)) = (r : Int) * (c : Int) := by
    have h1 : r * c ≤ 60 * 200 := Nat.mul_le_mul hler hlec
    rw [← Int.natCast_mul]
    simp only [IntKind.wrap, IntKind.bits, IntKind.signed]
    simp only [Int.natCast_mul] at *
    have h2 : ((r : Int) * (c : Int)) ≤ 12000 := by rw [← Int.natCast_mul]; omega
    have h3 : (0 : Int) ≤ ((r : Int) * (c : Int)) := by rw [← Int.natCast_mul]; omega
    simp
    omega
  go_wp2_with fail
  go_at_call 55
  refine (kcellsread_any w9 g u B p6 e6 HR.out ((r : Int) * (c : Int)) (HT.out.kept HC.out)).mono ?_
  intro e' w10 hcl
  obtain ⟨v, cs, b, q, er, rfl, hcs, hcl12, hr, hch, hcome⟩ := Come.cells hler hlec HQ.out hcl
  have HCS := Lib.hid hcs
  have HW9 : Hid (w.heap.size ≤ w9.heap.size) := Lib.hid HC.out.size
  have HL12 := Lib.hid hcl12
  rw [hbh] at hcome
  have HCM := Lib.hid hcome
  replace HX := Lib.hid (HX.out.rd HR.out (by decide) hch)
  replace HY := Lib.hid (HY.out.rd HR.out (by decide) hch)
  replace HC : Hid (Chg w w10 nob) := Lib.hid (HC.out.trans hch (fun i hi e => by have := HG.out; omega))
  obtain ⟨av, cv, rfl, _⟩ := hcs.form
  clear hcl hcs hcl12 hr hch hcome hmul y0 y1 y2 f2 HR HR0 HQ
  have y2 := HY.out.cell 2
  simp only [List.getElem?_toArray, List.getElem?_cons_zero, List.getElem?_cons_succ] at y2
  have f2 := HY.out.free 2
  go_upto_region 4 with (fail)
  obtain ⟨w11, hw⟩ : ∃ W, w10.setCell ⟨iy, 2, none⟩ (.slice av cs.length cv) = W := ⟨_, rfl⟩
  have HY1 : Hid (Blk w11 iy 24 #[.int .i64 r, .int .i64 c, .slice av cs.length cv, .int .i64 y, .int .i64 x, .bool bh, .string t]) := Lib.hid (by rw [← hw]; exact HY.out.set 2 _)
  have HX1 := Lib.hid (by have h := HX.out.other (p := ⟨iy, 2, none⟩) HXY.out (.slice av cs.length cv); rw [hw] at h; exact h)
  have HO1 : Hid (Own w11 47 5 (.slice av cs.length cv) cs.length (cellsV cs)) := Lib.hid (by rw [← hw]; exact HCS.out.1.setOther (p := ⟨iy, 2, none⟩) (HCS.out.1.ne HY.out (by decide)) _)
  have HC1 : Hid (Chg w w11 nob) := Lib.hid (by rw [← hw]; exact HC.out.setCell (p := ⟨iy, 2, none⟩) (.inr HIY.out) _)
  rw [hw]
  clear hw HX HY HC y2 f2
  have y0 := HY1.out.cell 0
  have y1 := HY1.out.cell 1
  have y2 := HY1.out.cell 2
  have y3 := HY1.out.cell 3
  have y4 := HY1.out.cell 4
  have y5 := HY1.out.cell 5
  have y6 := HY1.out.cell 6
  simp only [List.getElem?_toArray, List.getElem?_cons_zero, List.getElem?_cons_succ] at y0 y1 y2 y3 y4 y5 y6
  obtain ⟨m, hm⟩ : ∃ m, mayS (r : Int) (c : Int) cs (y : Int) (x : Int) t = m := ⟨_, rfl⟩
  have HEN := Lib.hid (kenc_any w11 r c y x bh t (.slice av cs.length cv) cs HO1.out.rd (by have := HL12.out; omega) (by omega) (HT.out.kept HC1.out))
  rw [hm] at HEN
  have HDS := Lib.hid (HD.out _ HCM.out)
  have HSM : Hid (Sc.may ⟨r, c, cs, y, x, bh, t⟩ = m) := Lib.hid hm
  clear hm
  go_wp2_with fail
  go_at_call 15
  refine HEN.out.mono ?_
  rintro e' w12 ⟨v2, rfl, hb⟩
  have HB2 := Lib.hid hb
  have HC2 : Hid (Chg w w12 nob) := Lib.hid (HC1.out.trans hb.2.1 (fun _ _ h => h))
  have HY2 := Lib.hid (HY1.out.kept hb.2.1 (fun h => h))
  have HX2 := Lib.hid (HX1.out.kept hb.2.1 (fun h => h))
  have HO2 := Lib.hid (HO1.out.kept hb.2.1 (fun _ _ h => h))
  clear hb HEN y0 y1 y2 y3 y4 y5 y6 HX1 HY1 HC1 HO1
  have x0 := HX2.out.cell 0
  have x1 := HX2.out.cell 1
  have x2 := HX2.out.cell 2
  have x3 := HX2.out.cell 3
  have x4 := HX2.out.cell 4
  have x5 := HX2.out.cell 5
  have x6 := HX2.out.cell 6
  simp only [List.getElem?_toArray, List.getElem?_cons_zero, List.getElem?_cons_succ] at x0 x1 x2 x3 x4 x5 x6
  have f0 := HX2.out.free 0
  have f1 := HX2.out.free 1
  have f2 := HX2.out.free 2
  have f3 := HX2.out.free 3
  have f4 := HX2.out.free 4
  have f5 := HX2.out.free 5
  have f6 := HX2.out.free 6
  cases m with
  | false =>
    have HN : Hid (DQ = none) := Lib.hid (by rw [HDS.out, if_neg (fun h => by rw [HSM.out] at h; exact absurd h.1 (by simp))])
    simp only [encE]
    go_wp2
    obtain ⟨wz, hwz⟩ : ∃ W, ((((((World.setCell w12 ⟨ix, 0, none⟩ (.int .i64 0)).setCell ⟨ix, 1, none⟩ (.int .i64 0)).setCell ⟨ix, 2, none⟩ (.slice none 0 0)).setCell ⟨ix, 3, none⟩ (.int .i64 0)).setCell ⟨ix, 4, none⟩ (.int .i64 0)).setCell ⟨ix, 5, none⟩ (.bool false)).setCell ⟨ix, 6, none⟩ (.string ⟨#[]⟩) = W := ⟨_, rfl⟩
    have HXZ : Hid (Blk wz ix 24 #[.int .i64 0, .int .i64 0, .slice none 0 0, .int .i64 0, .int .i64 0, .bool false, .string ⟨#[]⟩]) := Lib.hid (by rw [← hwz]; exact ((((((HX2.out.set 0 _).set 1 _).set 2 _).set 3 _).set 4 _).set 5 _).set 6 _)
    have hnew : w.heap.size ≤ ix := by have := HIX.out; omega
    have HCZ : Hid (Chg w wz nob) := Lib.hid (by
      rw [← hwz]
      exact ((((((HC2.out.setCell (p := ⟨ix, 0, none⟩) (.inr hnew) _).setCell (p := ⟨ix, 1, none⟩) (.inr hnew) _).setCell (p := ⟨ix, 2, none⟩) (.inr hnew) _).setCell (p := ⟨ix, 3, none⟩) (.inr hnew) _).setCell (p := ⟨ix, 4, none⟩) (.inr hnew) _).setCell (p := ⟨ix, 5, none⟩) (.inr hnew) _).setCell (p := ⟨ix, 6, none⟩) (.inr hnew) _)
    have hcq : Chg w12 wz (fun k => k = ix) := by
      rw [← hwz]
      exact (((((((Chg.refl w12 (fun k => k = ix)).setCell (p := ⟨ix, 0, none⟩) (.inl rfl) _).setCell (p := ⟨ix, 1, none⟩) (.inl rfl) _).setCell (p := ⟨ix, 2, none⟩) (.inl rfl) _).setCell (p := ⟨ix, 3, none⟩) (.inl rfl) _).setCell (p := ⟨ix, 4, none⟩) (.inl rfl) _).setCell (p := ⟨ix, 5, none⟩) (.inl rfl) _).setCell (p := ⟨ix, 6, none⟩) (.inl rfl) _
    rw [hwz]
    clear hwz
    have z0 := HXZ.out.cell 0
    have z1 := HXZ.out.cell 1
    have z2 := HXZ.out.cell 2
    have z3 := HXZ.out.cell 3
    have z4 := HXZ.out.cell 4
    have z5 := HXZ.out.cell 5
    have z6 := HXZ.out.cell 6
    simp only [List.getElem?_toArray, List.getElem?_cons_zero, List.getElem?_cons_succ] at z0 z1 z2 z3 z4 z5 z6
    refine bodyPost_ret (v := .tuple #[scV 0 0 (.slice none 0 0) 0 0 false ⟨#[]⟩, .int .i64 2]) (by simp [results, Tryz.results26, go_sem, z0, z1, z2, z3, z4, z5, z6]) rfl ?_
    exact ⟨HCZ.out, .inr ⟨HN.out, rfl⟩⟩
  | true =>
    simp only [if_true] at HB2
    have HBY := Lib.hid (By.ofBx HB2.out (key_byte ⟨r, c, cs, y, x, bh, t⟩))
    obtain ⟨av2, cv2, rfl, _⟩ := HB2.out.1.form
    obtain ⟨av0, cv0, rfl, _⟩ := HB.out.form
    simp only [encE, if_true]
    by_cases hk : Sc.key ⟨r, c, cs, y, x, bh, t⟩ = B
    · have HN : Hid (DQ = some ⟨r, c, cs, y, x, bh, t⟩) := Lib.hid (by rw [HDS.out, if_pos ⟨HSM.out, hk⟩])
      have HDK : Hid (decide (keyL (r : Int) (c : Int) cs (y : Int) (x : Int) bh t = B) = true) := Lib.hid (decide_eq_true hk)
      clear hk x0 x1 x2 x3 x4 x5 x6 f0 f1 f2 f3 f4 f5 f6
      go_wp2_with fail
      go_at_call 28
      refine (bequal_by HBY.out (HB.out.kept HC2.out)).mono ?_
      rw [HDK.out]
      rintro e' w13 ⟨rfl, rfl⟩
      have x0 := HX2.out.cell 0
      have x1 := HX2.out.cell 1
      have x2 := HX2.out.cell 2
      have x3 := HX2.out.cell 3
      have x4 := HX2.out.cell 4
      have x5 := HX2.out.cell 5
      have x6 := HX2.out.cell 6
      simp only [List.getElem?_toArray, List.getElem?_cons_zero, List.getElem?_cons_succ] at x0 x1 x2 x3 x4 x5 x6
      have f0 := HX2.out.free 0
      have f1 := HX2.out.free 1
      have f2 := HX2.out.free 2
      have f3 := HX2.out.free 3
      have f4 := HX2.out.free 4
      have f5 := HX2.out.free 5
      have f6 := HX2.out.free 6
      have y0 := HY2.out.cell 0
      have y1 := HY2.out.cell 1
      have y2 := HY2.out.cell 2
      have y3 := HY2.out.cell 3
      have y4 := HY2.out.cell 4
      have y5 := HY2.out.cell 5
      have y6 := HY2.out.cell 6
      simp only [List.getElem?_toArray, List.getElem?_cons_zero, List.getElem?_cons_succ] at y0 y1 y2 y3 y4 y5 y6
      have g0 := HY2.out.free 0
      have g1 := HY2.out.free 1
      have g2 := HY2.out.free 2
      have g3 := HY2.out.free 3
      have g4 := HY2.out.free 4
      have g5 := HY2.out.free 5
      have g6 := HY2.out.free 6
      go_wp2
      obtain ⟨wz, hwz⟩ : ∃ W, ((((((World.setCell w12 ⟨ix, 0, none⟩ (.int .i64 r)).setCell ⟨ix, 1, none⟩ (.int .i64 c)).setCell ⟨ix, 2, none⟩ (.slice av cs.length cv)).setCell ⟨ix, 3, none⟩ (.int .i64 y)).setCell ⟨ix, 4, none⟩ (.int .i64 x)).setCell ⟨ix, 5, none⟩ (.bool bh)).setCell ⟨ix, 6, none⟩ (.string t) = W := ⟨_, rfl⟩
      have HXZ : Hid (Blk wz ix 24 #[.int .i64 r, .int .i64 c, .slice av cs.length cv, .int .i64 y, .int .i64 x, .bool bh, .string t]) := Lib.hid (by rw [← hwz]; exact ((((((HX2.out.set 0 _).set 1 _).set 2 _).set 3 _).set 4 _).set 5 _).set 6 _)
      have hnew : w.heap.size ≤ ix := by have := HIX.out; omega
      have HCZ : Hid (Chg w wz nob) := Lib.hid (by
        rw [← hwz]
        exact ((((((HC2.out.setCell (p := ⟨ix, 0, none⟩) (.inr hnew) _).setCell (p := ⟨ix, 1, none⟩) (.inr hnew) _).setCell (p := ⟨ix, 2, none⟩) (.inr hnew) _).setCell (p := ⟨ix, 3, none⟩) (.inr hnew) _).setCell (p := ⟨ix, 4, none⟩) (.inr hnew) _).setCell (p := ⟨ix, 5, none⟩) (.inr hnew) _).setCell (p := ⟨ix, 6, none⟩) (.inr hnew) _)
      have hcq : Chg w12 wz (fun k => k = ix) := by
        rw [← hwz]
        exact (((((((Chg.refl w12 (fun k => k = ix)).setCell (p := ⟨ix, 0, none⟩) (.inl rfl) _).setCell (p := ⟨ix, 1, none⟩) (.inl rfl) _).setCell (p := ⟨ix, 2, none⟩) (.inl rfl) _).setCell (p := ⟨ix, 3, none⟩) (.inl rfl) _).setCell (p := ⟨ix, 4, none⟩) (.inl rfl) _).setCell (p := ⟨ix, 5, none⟩) (.inl rfl) _).setCell (p := ⟨ix, 6, none⟩) (.inl rfl) _
      rw [hwz]
      clear hwz
      have z0 := HXZ.out.cell 0
      have z1 := HXZ.out.cell 1
      have z2 := HXZ.out.cell 2
      have z3 := HXZ.out.cell 3
      have z4 := HXZ.out.cell 4
      have z5 := HXZ.out.cell 5
      have z6 := HXZ.out.cell 6
      simp only [List.getElem?_toArray, List.getElem?_cons_zero, List.getElem?_cons_succ] at z0 z1 z2 z3 z4 z5 z6
      refine bodyPost_ret (v := .tuple #[scV r c (.slice av cs.length cv) y x bh t, .int .i64 0]) (by simp [results, Tryz.results26, go_sem, z0, z1, z2, z3, z4, z5, z6]) rfl ?_
      exact ⟨HCZ.out, .inl ⟨_, _, HN.out, rfl, ⟨HO2.out.kept hcq (fun k hk e => HO2.out.ne HX2.out (by decide) (by rwa [← e])), fun k hk => Nat.le_trans HW9.out (HCS.out.2 k hk)⟩⟩⟩
    · have HN : Hid (DQ = none) := Lib.hid (by rw [HDS.out, if_neg (fun h => hk h.2)])
      have HDK : Hid (decide (keyL (r : Int) (c : Int) cs (y : Int) (x : Int) bh t = B) = false) := Lib.hid (decide_eq_false hk)
      clear hk x0 x1 x2 x3 x4 x5 x6 f0 f1 f2 f3 f4 f5 f6
      go_wp2_with fail
      go_at_call 28
      refine (bequal_by HBY.out (HB.out.kept HC2.out)).mono ?_
      rw [HDK.out]
      rintro e' w13 ⟨rfl, rfl⟩
      have x0 := HX2.out.cell 0
      have x1 := HX2.out.cell 1
      have x2 := HX2.out.cell 2
      have x3 := HX2.out.cell 3
      have x4 := HX2.out.cell 4
      have x5 := HX2.out.cell 5
      have x6 := HX2.out.cell 6
      simp only [List.getElem?_toArray, List.getElem?_cons_zero, List.getElem?_cons_succ] at x0 x1 x2 x3 x4 x5 x6
      have f0 := HX2.out.free 0
      have f1 := HX2.out.free 1
      have f2 := HX2.out.free 2
      have f3 := HX2.out.free 3
      have f4 := HX2.out.free 4
      have f5 := HX2.out.free 5
      have f6 := HX2.out.free 6
      go_wp2
      obtain ⟨wz, hwz⟩ : ∃ W, ((((((World.setCell w12 ⟨ix, 0, none⟩ (.int .i64 0)).setCell ⟨ix, 1, none⟩ (.int .i64 0)).setCell ⟨ix, 2, none⟩ (.slice none 0 0)).setCell ⟨ix, 3, none⟩ (.int .i64 0)).setCell ⟨ix, 4, none⟩ (.int .i64 0)).setCell ⟨ix, 5, none⟩ (.bool false)).setCell ⟨ix, 6, none⟩ (.string ⟨#[]⟩) = W := ⟨_, rfl⟩
      have HXZ : Hid (Blk wz ix 24 #[.int .i64 0, .int .i64 0, .slice none 0 0, .int .i64 0, .int .i64 0, .bool false, .string ⟨#[]⟩]) := Lib.hid (by rw [← hwz]; exact ((((((HX2.out.set 0 _).set 1 _).set 2 _).set 3 _).set 4 _).set 5 _).set 6 _)
      have hnew : w.heap.size ≤ ix := by have := HIX.out; omega
      have HCZ : Hid (Chg w wz nob) := Lib.hid (by
        rw [← hwz]
        exact ((((((HC2.out.setCell (p := ⟨ix, 0, none⟩) (.inr hnew) _).setCell (p := ⟨ix, 1, none⟩) (.inr hnew) _).setCell (p := ⟨ix, 2, none⟩) (.inr hnew) _).setCell (p := ⟨ix, 3, none⟩) (.inr hnew) _).setCell (p := ⟨ix, 4, none⟩) (.inr hnew) _).setCell (p := ⟨ix, 5, none⟩) (.inr hnew) _).setCell (p := ⟨ix, 6, none⟩) (.inr hnew) _)
      have hcq : Chg w12 wz (fun k => k = ix) := by
        rw [← hwz]
        exact (((((((Chg.refl w12 (fun k => k = ix)).setCell (p := ⟨ix, 0, none⟩) (.inl rfl) _).setCell (p := ⟨ix, 1, none⟩) (.inl rfl) _).setCell (p := ⟨ix, 2, none⟩) (.inl rfl) _).setCell (p := ⟨ix, 3, none⟩) (.inl rfl) _).setCell (p := ⟨ix, 4, none⟩) (.inl rfl) _).setCell (p := ⟨ix, 5, none⟩) (.inl rfl) _).setCell (p := ⟨ix, 6, none⟩) (.inl rfl) _
      rw [hwz]
      clear hwz
      have z0 := HXZ.out.cell 0
      have z1 := HXZ.out.cell 1
      have z2 := HXZ.out.cell 2
      have z3 := HXZ.out.cell 3
      have z4 := HXZ.out.cell 4
      have z5 := HXZ.out.cell 5
      have z6 := HXZ.out.cell 6
      simp only [List.getElem?_toArray, List.getElem?_cons_zero, List.getElem?_cons_succ] at z0 z1 z2 z3 z4 z5 z6
      refine bodyPost_ret (v := .tuple #[scV 0 0 (.slice none 0 0) 0 0 false ⟨#[]⟩, .int .i64 2]) (by simp [results, Tryz.results26, go_sem, z0, z1, z2, z3, z4, z5, z6]) rfl ?_
      exact ⟨HCZ.out, .inr ⟨HN.out, rfl⟩⟩
end Go.Proofs.YtmbdpcamhkdkmaaGreatDoor
