/-
  Cells copied: slices.Clone, copy onto cells of one's own, screen.Copy.
  Where a reading stands: it goes on, or was given up.
  Package diff: lays (the cells that differ, laid in a screen).
-/
import Derived.Test.YtmbdpcamhkdkmaaGreatDoorMg6
import Derived.Test.YtmbdpcamhkdkmaaGreatDoorMg25
import Derived.Test.YtmbdpcamhkdkmaaGreatDoorMg8
import Derived.Test.YtmbdpcamhkdkmaaGreatDoorDiff2M
import Derived.Test.YtmbdpcamhkdkmaaGreatDoorDecM
import Derived.Test.YtmbdpcamhkdkmaaGreatDoorMg26
namespace Go.Proofs.YtmbdpcamhkdkmaaGreatDoor
open Go.RowKit
set_option linter.unusedVariables false
set_option linter.unusedSimpArgs false

theorem run_copy_zero {P : Program} (w : World) (dT sT ty elem : TypeId) (size : Nat) (hu : P.underlying dT = some (.slice elem)) (hs : (P.info? elem).map (·.size) = some size) (b : Option Addr) (dLen dCap : Nat) (a : Option Addr) (sCap : Nat) :
    (Builtin.copy_ #[dT, sT] ty #[.slice b dLen dCap, .slice a 0 sCap]).run P w = .ok (goInt 0) w := by
  cases hq : P.info? elem with
  | none => simp [hq] at hs
  | some i =>
    cases a <;> cases b <;> simp [Builtin.copy_, run_underlying hu, Builtin.lenOf, Builtin.firstCells, sizeOf, typeInfo, hq, Nat.min_eq_left, loadCells, loadCellsFrom, storeCells]
set_option maxRecDepth 100000 in
theorem eql_nil5 (w : World) (a : Option Addr) (n c : Nat) : (binOp .eql 22 (.slice a n c) (.slice none 0 0)).run Tryz.prog w = .ok (.bool a.isNone) w := by
  cases a <;> rfl
theorem Rd.none5 {w : World} {n c : Nat} {l : List Ce} (h : Rd w 5 (.slice none n c) n (cellsV l)) : l = [] := by
  cases l with
  | nil => rfl
  | cons x t =>
    obtain ⟨_, _, e, _⟩ := h.cell (j := 0) (u := .int .i32 x.r) rfl
    cases e
theorem Cs.newer {w0 w wr : World} {v : Value} {l : List Ce} (h : Cs w wr v l) (hc : Chg w0 w nob) : Cs w0 wr v l := ⟨h.1, fun k hk => Nat.le_trans hc.size (h.2 k hk)⟩
theorem Rd.news5 {w : World} {ao : Option Addr} {n cap : Nat} {l : List Ce} (hr : Rd w 5 (.slice ao n cap) n (cellsV l)) : ∀ a, ao = some a → ∀ j u, (cellsV l)[j]? = some u → w.cell? (a.add j) = some u := fun a ha j u hu => by
  obtain ⟨b', o', h1, h2⟩ := hr.cell hu
  rw [ha] at h1
  cases h1
  rw [Addr.add_lit]; exact h2
set_option maxRecDepth 100000 in
set_option maxHeartbeats 2000000 in
/-- A copy of cells. -/
theorem clone5_any (w : World) (va : Value) (l : List Ce) (ha : Rd w 5 va l.length (cellsV l)) (hl : l.length ≤ 1000000) :
    Calls Tryz.prog 81 #[va] w fun e w' => ∃ v, e = .returned v ∧ Cs w w' v l ∧ Chg w w' nob := by
  obtain ⟨ao, cap, rfl, hc, hlen⟩ := ha.form
  have HA := Lib.hid ha
  cases ao with
  | none =>
    obtain rfl := ha.none5
    clear ha
    have hq := eql_nil5 w none 0 cap
    go_enter Tryz.func81, Tryz.ntmps81
    go_wp2
    go_ret
    exact ⟨_, rfl, Cs.nil _ _, Chg.refl _ _⟩
  | some ad =>
    have hr : Rd (w.alloc (.cells #[] 47)) 5 (.slice (some ad) l.length cap) l.length (cellsV l) := ha.alloc _
    have hnews := Lib.hid hr.news5
    have hown : Own (w.alloc (.cells #[] 47)) 47 5 (.slice (some ⟨w.heap.size, 0, none⟩) 0 0) 0 [] :=
      ⟨rfl, .inr ⟨w.heap.size, 0, #[], rfl, Nat.zero_le _, Blk.new w _ _, Nat.le_refl _, Nat.zero_le _, rfl, rfl⟩⟩
    have HL := Lib.hid (cellsV_len l)
    have HO := Lib.hid hown
    clear ha hr hown
    have hq := eql_nil5 w (some ad) l.length cap
    go_enter Tryz.func81, Tryz.ntmps81
    go_wp2_with (at_builtin; refine wpList_app rfl (.tmp 5) (.tmp 6) 22 rfl 47 (.agg #[.int .i32 0, .int .i64 0, .int .i64 0, .int .i64 0, .int .i64 0]) 5 40 i_cell u_cells rfl (by decide) _ 0 _ rfl HO.out (some ad) l.length cap (cellsV l) rfl (fun h => by cases h) HL.out hnews.out (cellsV_one l) (by unfold maxLen; omega) (by omega) ?_)
    intro v5 w5 ho5 hch5 hfo5
    have HO5 := Lib.hid ho5
    have HC5 := Lib.hid hch5
    have HF5 := Lib.hid hfo5
    clear ho5 hch5 hfo5
    go_wp2
    go_ret
    refine ⟨_, rfl, ⟨by simpa using HO5.out, fun k hk => ?_⟩, ((Chg.refl w nob).alloc _).trans HC5.out (fun i hi h => ?_)⟩
    · rcases HF5.out k hk with h | h
      · cases h; exact Nat.le_refl _
      · have := size_al w (.cells #[] 47); omega
    · cases h; simp at hi
theorem Own.over5 {w w' : World} {g n cap at_ : Nat} {cs z : List Ce} {cur : Array Value} (h : Own w 47 5 (.slice (some ⟨g, 0, none⟩) n cap) n (cellsV cs)) (hg : Blk w g 47 cur)
    (hb : Blk w' g 47 (over cur.toList (at_ * 5) (cellsV z)).toArray) (hn : cs.length = n) (hfit : at_ + z.length ≤ n) : Own w' 47 5 (.slice (some ⟨g, 0, none⟩) n cap) n (cellsV (cs.take at_ ++ (z ++ cs.drop (at_ + z.length)))) := by
  rcases h.2 with ⟨h1, _⟩ | ⟨g', cap', cur', hv, h0, hh, h1, h2, h3, h4⟩
  · cases h1
  · cases hv
    obtain ⟨_, rfl⟩ := Blk.inj hg hh
    have hzl : (cellsV z).length = z.length * 5 := cellsV_len z
    have hcl : cur.toList.length = cap * 5 := by simpa using h3
    have hov : (over cur.toList (at_ * 5) (cellsV z)).length = cap * 5 := by rw [over_len (by rw [hzl, hcl]; omega), hcl]
    refine ⟨?_, .inr ⟨g, cap, _, rfl, Nat.zero_le _, hb, h1, h2, by simpa using hov, ?_⟩⟩
    · rw [cellsV_len]
      simp only [List.length_append, List.length_take, List.length_drop]
      rw [show min at_ cs.length + (z.length + (cs.length - (at_ + z.length))) = n by omega]
    · have hc2 : cellsV cs = cur.toList.take (n * 5) := h4.symm
      simp only [cellsV_app, cellsV_take, cellsV_drop, hc2]
      simp only [over, List.append_assoc]
      have e1 : (cur.toList.take (n * 5)).take (at_ * 5) = cur.toList.take (at_ * 5) := by rw [List.take_take, Nat.min_eq_left (by omega)]
      have e2 : (cur.toList.take (n * 5)).drop ((at_ + z.length) * 5) = (cur.toList.drop (at_ * 5 + (cellsV z).length)).take (n * 5 - (at_ + z.length) * 5) := by
        rw [List.drop_take, hzl, Nat.add_mul]
      rw [e1, e2]
      have l1 : (cur.toList.take (at_ * 5)).length = at_ * 5 := by rw [List.length_take, hcl]; omega
      rw [List.take_append, l1, List.take_of_length_le (l := cur.toList.take (at_ * 5)) (by rw [l1]; omega), List.take_append, List.take_of_length_le (l := cellsV z) (by rw [hzl]; omega), hzl]
      rw [show n * 5 - at_ * 5 - z.length * 5 = n * 5 - (at_ + z.length) * 5 by omega]
/-- Cells copied onto cells of one's own. -/
theorem wpList_copy5 {ops : Array Oper} {rest : List Oper} {o : Oper} {a : Act} {Q : Exit → Act → World → Prop} {w : World} (hgd : o.guard = none) (d s : Operand)
    (ho : o.op = .call { callee := .builtin .copy, args := #[d, s], argTypes := #[22, 22] })
    (b : Option Addr) (n cap at_ : Nat) (cs : List Ce) (h : Own w 47 5 (.slice b n cap) n (cellsV cs)) (hn : cs.length = n) (hat : at_ ≤ n)
    (hd : a.eval d = .slice (addS5 b cap at_) (n - at_) (cap - at_)) (sa : Option Addr) (sc : Nat) (z : List Ce) (hs : a.eval s = .slice sa z.length sc) (hz : Rd w 5 (.slice sa z.length sc) z.length (cellsV z)) (hfit : at_ + z.length ≤ n)
    (hk : ∀ w', Own w' 47 5 (.slice b n cap) n (cellsV (cs.take at_ ++ (z ++ cs.drop (at_ + z.length)))) → Chg w w' (blkOf (.slice b n cap)) → wpList Tryz.prog ops Q rest (a.put o.dst (.int .i64 z.length)) w') : wpList Tryz.prog ops Q (o :: rest) a w := by
  have hcap := h.form
  obtain ⟨_, _, hv, hnc, _, hnil, hsome⟩ := hcap
  cases hv
  by_cases hz0 : z.length = 0
  · obtain rfl : z = [] := List.length_eq_zero_iff.1 hz0
    refine wpList_plain hgd fun K hK => ?_
    have hrun := run_copy_zero (P := Tryz.prog) w 22 22 o.type 47 5 u_cells (by kernel_rfl) (addS5 b cap at_) (n - at_) (cap - at_) sa sc
    unfold Oper.wp
    simp only [execOp, ho, resolve, invoke, builtin, Sem.run_bind, Sem.run_pure, Result.andThen_ok, List.map_toArray, List.map_cons, List.map_nil, hd, hs, List.length_nil, hrun]
    refine hK _ _ (hk w ?_ (Chg.refl _ _))
    simpa using h
  · have hn0 : b ≠ none := fun e => by have := hnil e; omega
    obtain ⟨g, rfl⟩ : ∃ g, b = some ⟨g, 0, none⟩ := by
      cases b with
      | none => exact absurd rfl hn0
      | some x => obtain ⟨g, hg⟩ := hsome x rfl; exact ⟨g, by rw [hg]⟩
    obtain ⟨cur, hg⟩ := h.row (k := g) rfl
    obtain ⟨c0, t0, rfl⟩ : ∃ c t, z = c :: t := by cases z with | nil => exact absurd rfl hz0 | cons c t => exact ⟨c, t, rfl⟩
    obtain ⟨bs, os, rfl, _⟩ := hz.cell (j := 0) (u := .int .i32 c0.r) rfl
    have hadd : addS5 (some ⟨g, 0, none⟩) cap at_ = some ⟨g, at_ * 5, none⟩ := by
      simp only [List.length_cons] at hfit
      unfold addS5
      rw [if_neg (by omega)]
      simp [Addr.add_lit]
    rw [hadd] at hd
    refine wpList_copy hgd d s _ _ ho 47 5 u_cells (by kernel_rfl) g (at_ * 5) (n - at_) (cap - at_) ⟨bs, os, none⟩ _ sc hd hs cur _ hg (cellsV (c0 :: t0)) (c0 :: t0).length (by rw [show Nat.min (c0 :: t0).length (n - at_) = min (c0 :: t0).length (n - at_) from rfl]; omega) (cellsV_len _) (hz.news5 _ rfl) ?_ (cellsV_one _) ?_
    · have h5 : cur.size = cap * 5 := by
        rcases h.2 with ⟨h1, _⟩ | ⟨g', cap', cur', hv, h0, hh, h1, h2, h3, h4⟩
        · cases h1
        · cases hv
          obtain ⟨_, rfl⟩ := Blk.inj hg hh
          exact h3
      rw [cellsV_len, h5]
      omega
    · intro w' hb hc
      exact hk w' (h.over5 hg hb hn hfit) (hc.mono (fun k _ e => by subst e; rfl))
end Go.Proofs.YtmbdpcamhkdkmaaGreatDoor

namespace Go.Proofs.YtmbdpcamhkdkmaaGreatDoor
open Go.RowKit
set_option linter.unusedVariables false
set_option linter.unusedSimpArgs false

/-- Where a reading stands: it goes on, or was given up. -/
def AtG {α : Type} (RQ : Option α) (e : Int) (F : Option α) : Prop := (e = 0 ∧ RQ = F) ∨ (e ≠ 0 ∧ RQ = none)
theorem AtG.num {α : Type} {RQ : Option α} {l l' : List Int} {e : Int} {most n : Nat} {e' : Int} {F : Nat × List Int → Option α}
    (h : AtG RQ e ((numM most l).bind F)) (hr : (e' = 0 ∧ e = 0 ∧ numM most l = some (n, l')) ∨ (e' ≠ 0 ∧ n = 0 ∧ (e ≠ 0 ∨ numM most l = none))) : AtG RQ e' (F (n, l')) := by
  rcases hr with ⟨h1, h2, h3⟩ | ⟨h1, h2, h3⟩
  · rcases h with ⟨h4, h5⟩ | ⟨h4, h5⟩
    · exact .inl ⟨h1, by rw [h5, h3]; rfl⟩
    · exact absurd h2 h4
  · refine .inr ⟨h1, ?_⟩
    rcases h with ⟨h4, h5⟩ | ⟨h4, h5⟩
    · rcases h3 with h3 | h3
      · exact absurd h4 h3
      · rw [h5, h3]; rfl
    · exact h5
theorem AtG.text {α : Type} {RQ : Option α} {l l' : List Int} {e : Int} {most : Nat} {t : ByteArray} {e' : Int} {F : ByteArray × List Int → Option α}
    (h : AtG RQ e ((textQ most l).bind F)) (hr : (e' = 0 ∧ e = 0 ∧ textQ most l = some (t, l')) ∨ (e' ≠ 0 ∧ t = ⟨#[]⟩ ∧ (e ≠ 0 ∨ textQ most l = none))) : AtG RQ e' (F (t, l')) := by
  rcases hr with ⟨h1, h2, h3⟩ | ⟨h1, h2, h3⟩
  · rcases h with ⟨h4, h5⟩ | ⟨h4, h5⟩
    · exact .inl ⟨h1, by rw [h5, h3]; rfl⟩
    · exact absurd h2 h4
  · refine .inr ⟨h1, ?_⟩
    rcases h with ⟨h4, h5⟩ | ⟨h4, h5⟩
    · rcases h3 with h3 | h3
      · exact absurd h4 h3
      · rw [h5, h3]; rfl
    · exact h5
end Go.Proofs.YtmbdpcamhkdkmaaGreatDoor

namespace Go.Proofs.YtmbdpcamhkdkmaaGreatDoor
open Go.RowKit
set_option linter.unusedVariables false
set_option linter.unusedSimpArgs false

def ly2 (n fu p : Nat) (cs : List Ce) (g m : Nat) (l : List Int) : Option (List Ce) := (cellsF m l).bind fun z => laysQ fu (p + g + m) (cs.take (p + g) ++ (z.1 ++ cs.drop (p + g + m))) z.2
def ly1 (n fu p : Nat) (cs : List Ce) (g : Nat) (l : List Int) : Option (List Ce) := (numM (n - (p + g)) l).bind fun m => ly2 n fu p cs g m.1 m.2
theorem laysQ_step {fu p : Nat} {cs : List Ce} {l : List Int} {n : Nat} (h : l ≠ []) (hn : cs.length = n) : laysQ (fu + 1) p cs l = (numM (n - p) l).bind fun g => ly1 n fu p cs g.1 g.2 := by
  rw [laysQ, if_neg h, hn]
  rfl
theorem laysQ_done {fu p : Nat} {cs : List Ce} : laysQ fu p cs [] = some cs := by cases fu <;> simp [laysQ]
/-- A screen in its box, its cells in a row of their own. -/
structure Scb (w : World) (ib : Nat) (A : Array Value) (v : Value) (l : List Ce) : Prop where
  blk : Blk w ib 24 A
  own : Own w 47 5 v l.length (cellsV l)
theorem Scb.kept {w w' : World} {ib : Nat} {A : Array Value} {v : Value} {l : List Ce} (h : Scb w ib A v l) (hc : Chg w w' nob) : Scb w' ib A v l := ⟨h.blk.kept hc id, h.own.kept hc (fun _ _ => id)⟩
theorem Scb.rd {w w' : World} {ib : Nat} {A : Array Value} {v : Value} {l : List Ce} {g p : Nat} {u : Value} {B : List Int} {e : Int} (h : Scb w ib A v l) (hr : RdrR w g u B p e) (hc : Chg w w' (fun k => k = g)) : Scb w' ib A v l :=
  ⟨h.blk.rd hr (by decide) hc, h.own.kept hc (fun k hk e => h.own.ne hr.blk (by decide) (by rwa [← e]))⟩
theorem run_cut5_at (b : Option Addr) (n cap : Nat) (k : IntKind) (p : Nat) (w : World) (h : p ≤ n) : (Instr.slice 22 (.slice b n cap) (some (.int k p)) none none).run Tryz.prog w = .ok (.slice (addS5 b cap p) (n - p) (cap - p)) w := by
  have := run_cut5_l b n cap k p w (by omega) (by omega)
  simpa using this
attribute [local go_sem ↓] run_cut5_at
set_option maxRecDepth 100000 in
set_option maxHeartbeats 4000000 in
theorem lays_any (w0 w : World) (ib g : Nat) (R C : Int) (cs0 : List Ce) (v : Value) (y x : Int) (h : Bool) (t : ByteArray) (u : Value) (B : List Int) (p : Nat) (hs : Scb w ib (scA R C v y x h t) v cs0) (hr : RdrR w g u B p 0) (hl : cs0.length ≤ 12000)
    (hc : Chg w0 w nob) (hg : w0.heap.size ≤ g) (hv : ∀ k, blkOf v k → w0.heap.size ≤ k) (ht : Tab w0) :
    Calls Tryz.prog 57 #[ptr ib, ptr g] w fun e' w' => ∃ cs q er, e' = .returned (.bool (laysQ (B.drop p).length 0 cs0 (B.drop p)).isSome) ∧ Scb w' ib (scA R C v y x h t) v cs ∧ cs.length = cs0.length ∧ RdrR w' g u B q er ∧ Chg w w' (fun k => k = g ∨ blkOf v k) ∧ ∀ z, laysQ (B.drop p).length 0 cs0 (B.drop p) = some z → z = cs := by
  obtain ⟨bv, cv, rfl, hnc, _⟩ := hs.own.form
  obtain ⟨n, hn⟩ : ∃ n, cs0.length = n := ⟨_, rfl⟩
  obtain ⟨RQ, hRQ⟩ : ∃ r, laysQ (B.drop p).length 0 cs0 (B.drop p) = r := ⟨_, rfl⟩
  have HQ := Lib.hid hRQ
  have HS := Lib.hid hs
  have HR := Lib.hid hr
  have HC := Lib.hid hc
  have HG := Lib.hid hg
  have HV := Lib.hid hv
  have HT := Lib.hid ht
  rw [hRQ]
  rw [hn] at HS HV hl hnc ⊢
  have HN := Lib.hid hn
  have hw0 := hr.le
  clear hRQ hs hr hc hg hv ht hn
  go_enter Tryz.func57, Tryz.ntmps57
  rename World => wS
  go_wp2_with fail
  go_loopw [5] (fun av wr => ∃ (fu q a : Nat) (cs : List Ce), a ≤ n ∧ av = .int .i64 a ∧ Hid (cs.length = n) ∧ Hid ((B.drop q).length ≤ fu ∧ q ≤ B.length) ∧ Hid (RQ = laysQ fu a cs (B.drop q)) ∧ Hid (Scb wr ib (scA R C (.slice bv n cv) y x h t) (.slice bv n cv) cs) ∧ Hid (RdrR wr g u B q 0) ∧ Hid (Chg w0 wr nob) ∧ Hid (Chg wS wr (fun k => k = g ∨ blkOf (.slice bv n cv) k))) (fun _ wr => match wr.cell? ⟨g, 1, none⟩ with | some (.int _ q) => B.length - q.toNat | _ => 0)
  case atStart => exact ⟨_, p, 0, cs0, Nat.zero_le _, rfl, HN, Lib.hid ⟨Nat.le_refl _, HR.out.le⟩, Lib.hid HQ.out.symm, HS, HR, HC, Lib.hid (Chg.refl _ _)⟩
  case round =>
    clear HS HR HC HQ
    obtain ⟨fu, q, a, cs, ha, rfl, HL, HF, HQ, HS, HR, HC, HW⟩ := hrel
    have hq1 := HR.out.blk.cell 1
    simp only [List.getElem?_toArray, List.getElem?_cons_zero, List.getElem?_cons_succ] at hq1
    have hqb := HF.out.2
    rename World => wo
    by_cases hleft : q < B.length
    · have hli : (0 : Int) < (B.length : Int) - (q : Int) := by omega
      obtain ⟨fu, rfl⟩ : ∃ f, fu = f + 1 := ⟨fu - 1, by have := HF.out.1; simp only [List.length_drop] at this; omega⟩
      have HA : Hid (AtG RQ 0 ((numM (n - a) (B.drop q)).bind fun g => ly1 n fu a cs g.1 g.2)) := Lib.hid (.inl ⟨rfl, by
        rw [HQ.out, laysQ_step (fun h => by have := congrArg List.length h; simp at this; omega) HL.out]⟩)
      have hsub : IntKind.i64.wrap ((n : Int) - (a : Int)) = ((n - a : Nat) : Int) := by simp only [IntKind.wrap, IntKind.bits, IntKind.signed]; simp; omega
      have hsub2 : IntKind.u64.wrap ((n - a : Nat) : Int) = ((n - a : Nat) : Int) := wraps_u64 _ (by omega) (by omega)
      go_wp2_with fail
      go_at_call 72
      refine (left_any wo g u B q 0 HR.out).mono ?_
      rintro e' w1 ⟨rfl, hck⟩
      replace HS := Lib.hid (HS.out.kept hck)
      replace HR := Lib.hid (HR.out.kept hck)
      replace HC := Lib.hid (HC.out.trans hck (fun _ _ h => h))
      replace HW := Lib.hid (HW.out.trans hck (fun _ _ h => h.elim))
      clear hck
      have ub := HS.out.blk.cell 2
      simp only [List.getElem?_toArray, List.getElem?_cons_zero, List.getElem?_cons_succ] at ub
      go_wp2_with fail
      go_at_call 53
      refine (rdnum_any w1 g u B q 0 HR.out (n - a)).mono ?_
      rintro e' w2 ⟨gg, q1, e1, rfl, hr⟩
      have hgg := hr.le
      have HQ1 : Hid (e1 = 0 → q < q1) := Lib.hid (fun h => by
        rcases hr.s with ⟨_, _, h3⟩ | ⟨h1, _⟩
        · obtain ⟨h4, _⟩ := numM_back (fun x hx => HR.out.byte x (List.mem_of_mem_drop hx)) h3
          have h5 := congrArg List.length h4
          have := varL_pos' gg
          have := hr.r.le
          simp only [List.length_append, List.length_drop] at h5
          omega
        · exact absurd h h1)
      replace HA : Hid (AtG RQ e1 (ly1 n fu a cs gg (B.drop q1))) := Lib.hid (HA.out.num hr.s)
      replace HS := Lib.hid (HS.out.rd HR.out hr.c)
      replace HC := Lib.hid (HC.out.trans hr.c (fun i hi h => by have := HG.out; omega))
      replace HW := Lib.hid (HW.out.trans hr.c (fun _ _ h => .inl h))
      replace HR := Lib.hid hr.r
      clear hr ub hsub hsub2
      have ub := HS.out.blk.cell 2
      simp only [List.getElem?_toArray, List.getElem?_cons_zero, List.getElem?_cons_succ] at ub
      have hwg : IntKind.i64.wrap (gg : Int) = (gg : Int) := by simp only [IntKind.wrap, IntKind.bits, IntKind.signed]; simp; omega
      obtain ⟨a1, ha1⟩ : ∃ k, a + gg = k := ⟨_, rfl⟩
      have hadd : IntKind.i64.wrap ((a : Int) + (gg : Int)) = (a1 : Int) := by simp only [IntKind.wrap, IntKind.bits, IntKind.signed]; simp; omega
      have hsub : IntKind.i64.wrap ((n : Int) - (a1 : Int)) = ((n - a1 : Nat) : Int) := by simp only [IntKind.wrap, IntKind.bits, IntKind.signed]; simp; omega
      have hsub2 : IntKind.u64.wrap ((n - a1 : Nat) : Int) = ((n - a1 : Nat) : Int) := wraps_u64 _ (by omega) (by omega)
      have ha1n : a1 ≤ n := by omega
      have HA1 := Lib.hid ha1
      clear ha1
      replace HA : Hid (AtG RQ e1 ((numM (n - a1) (B.drop q1)).bind fun m => ly2 n fu a cs gg m.1 m.2)) := Lib.hid (by
        have h := HA.out
        unfold ly1 at h
        rwa [HA1.out] at h)
      go_wp2_with fail
      go_at_call 53
      refine (rdnum_any w2 g u B q1 e1 HR.out (n - a1)).mono ?_
      rintro e' w3 ⟨mm, q2, e2, rfl, hr⟩
      have hmm := hr.le
      have HQ2 : Hid (e2 = 0 → q < q2) := Lib.hid (fun h => by
        rcases hr.s with ⟨_, h0, h3⟩ | ⟨h1, _⟩
        · obtain ⟨h4, _⟩ := numM_back (fun x hx => HR.out.byte x (List.mem_of_mem_drop hx)) h3
          have h5 := congrArg List.length h4
          have := HQ1.out h0
          have := hr.r.le
          have := HR.out.le
          simp only [List.length_append, List.length_drop] at h5
          omega
        · exact absurd h h1)
      replace HA : Hid (AtG RQ e2 (ly2 n fu a cs gg mm (B.drop q2))) := Lib.hid (HA.out.num hr.s)
      replace HS := Lib.hid (HS.out.rd HR.out hr.c)
      replace HC := Lib.hid (HC.out.trans hr.c (fun i hi h => by have := HG.out; omega))
      replace HW := Lib.hid (HW.out.trans hr.c (fun _ _ h => .inl h))
      replace HR := Lib.hid hr.r
      clear hr ub hsub hsub2 HQ1
      have hwm : IntKind.i64.wrap (mm : Int) = (mm : Int) := by simp only [IntKind.wrap, IntKind.bits, IntKind.signed]; simp; omega
      go_wp2_with fail
      go_at_call 55
      refine (kcellsread_any w3 g u B q2 e2 HR.out mm (HT.out.kept HC.out)).mono ?_
      rintro e' w4 ⟨hck, q3, e3, hrd, ⟨h1, h2, rfl, h4, vz, z, rfl, hcz, hcf⟩ | ⟨rfl, h1⟩⟩
      · have HZ := Lib.hid hcz
        have HCF : Hid (cellsF mm (B.drop q2) = some (z, B.drop q3)) := Lib.hid (by simpa using hcf)
        have HZL : Hid (z.length = mm) := Lib.hid (cellsF_back (fun x hx => HR.out.byte x (List.mem_of_mem_drop hx)) (by omega) HCF.out).2.1
        have HQ3 : Hid (q2 ≤ q3) := Lib.hid (by
          have h5 := congrArg List.length (cellsF_back (fun x hx => HR.out.byte x (List.mem_of_mem_drop hx)) (by omega) HCF.out).1
          have := HR.out.le
          have := hrd.le
          simp only [List.length_append, List.length_drop] at h5
          omega)
        have HW3 : Hid (w0.heap.size ≤ w3.heap.size) := Lib.hid HC.out.size
        replace HS := Lib.hid (HS.out.rd HR.out hck)
        replace HC := Lib.hid (HC.out.trans hck (fun i hi h => by have := HG.out; omega))
        replace HW := Lib.hid (HW.out.trans hck (fun _ _ h => .inl h))
        replace HR := Lib.hid hrd
        obtain ⟨az, cz, rfl, _⟩ := hcz.form
        clear hcz hcf hck hrd h1 h2 h4
        go_wp2_with fail
        go_at_call 25
        refine (err_any w4 g u B q3 e3 HR.out).mono ?_
        rintro e' x5 ⟨rfl, rfl⟩
        by_cases he : e3 = 0
        · subst he
          have HR5 : Hid (RQ = laysQ fu (a1 + z.length) (cs.take a1 ++ (z ++ cs.drop (a1 + z.length))) (B.drop q3)) := Lib.hid (by
            rcases HA.out with ⟨_, h⟩ | ⟨h, _⟩
            · rw [h, ly2, HCF.out, HA1.out, HZL.out]; rfl
            · exact absurd rfl h)
          have hqq := HQ2.out rfl
          have hq3 := HQ3.out
          have hzl := HZL.out
          have hfit : a1 + z.length ≤ n := by omega
          have hnz : IntKind.i64.wrap ((a1 : Int) + (z.length : Int)) = ((a1 + z.length : Nat) : Int) := by simp only [IntKind.wrap, IntKind.bits, IntKind.signed]; simp; omega
          clear hzl
          have HO : Hid (Own w4 47 5 (.slice bv n cv) n (cellsV cs)) := Lib.hid (by have h := HS.out.own; rwa [HL.out] at h)
          have ub := HS.out.blk.cell 2
          simp only [List.getElem?_toArray, List.getElem?_cons_zero, List.getElem?_cons_succ] at ub
          go_wp2_with (refine wpList_copy5 rfl (.tmp 55) (.tmp 56) rfl bv n cv a1 cs HO.out HL.out ha1n (by rfl) az cz z (by rfl) HZ.out.1.rd hfit ?_)
          intro w5 ho hc5
          have HO5 := Lib.hid ho
          have hl5 : (cs.take a1 ++ (z ++ cs.drop (a1 + z.length))).length = n := by
            have := HL.out
            simp only [List.length_append, List.length_take, List.length_drop]
            omega
          have HS5 : Hid (Scb w5 ib (scA R C (.slice bv n cv) y x h t) (.slice bv n cv) (cs.take a1 ++ (z ++ cs.drop (a1 + z.length)))) := Lib.hid ⟨HS.out.blk.kept hc5 (fun hk => HO.out.ne HS.out.blk (by decide) hk), by rw [hl5]; exact ho⟩
          have HR5' : Hid (RdrR w5 g u B q3 0) := Lib.hid ⟨HR.out.blk.kept hc5 (fun hk => HO.out.ne HR.out.blk (by decide) hk), HR.out.own.kept hc5 (fun k hk hf => by
            obtain ⟨c1, hb1⟩ := HR.out.own.row hk
            exact HO.out.ne hb1 (by decide) hf), HR.out.byte, HR.out.le, HR.out.big⟩
          have HC5 : Hid (Chg w0 w5 nob) := Lib.hid (HC.out.trans hc5 (fun i hi hk => by have := HV.out i hk; omega))
          have HW5 : Hid (Chg wS w5 (fun k => k = g ∨ blkOf (.slice bv n cv) k)) := Lib.hid (HW.out.trans hc5 (fun _ _ h => .inr h))
          have HL5 := Lib.hid hl5
          have hq5 := HR5'.out.blk.cell 1
          simp only [List.getElem?_toArray, List.getElem?_cons_zero, List.getElem?_cons_succ] at hq5
          have hq3l := HR5'.out.le
          clear ho hc5 hl5 ub
          go_wp2
          go_roundw
          case rel => exact ⟨fu, q3, a1 + z.length, _, hfit, rfl, HL5, Lib.hid ⟨by have := HF.out.1; simp only [List.length_drop] at this ⊢; omega, hq3l⟩, HR5, HS5, HR5', HC5, HW5⟩
          case measure => simp only [hq1, hq5, Int.toNat_natCast]; omega
        · have he' : (e3 != 0) = true := by simpa using he
          have HN : Hid (RQ = none) := Lib.hid (by
            rcases HA.out with ⟨h, _⟩ | ⟨_, h⟩
            · exact absurd h he
            · exact h)
          clear he
          go_wp2
          go_ret
          exact ⟨cs, q3, e3, by rw [HN.out]; rfl, HS.out, HL.out, HR.out, HW.out, fun z hz => by rw [HN.out] at hz; cases hz⟩
      · have HN : Hid (RQ = none) := Lib.hid (by
          rcases HA.out with ⟨h2, h3⟩ | ⟨_, h⟩
          · rcases h1 with h | h | h | h
            · omega
            · omega
            · exact absurd h2 h
            · rw [h3, ly2, show cellsF mm (B.drop q2) = none by simpa using h]; rfl
          · exact h)
        replace HS := Lib.hid (HS.out.rd HR.out hck)
        replace HW := Lib.hid (HW.out.trans hck (fun _ _ h => .inl h))
        replace HR := Lib.hid hrd
        clear hck hrd h1
        go_wp2
        go_ret
        exact ⟨cs, q3, e3, by rw [HN.out]; rfl, HS.out, HL.out, HR.out, HW.out, fun z hz => by rw [HN.out] at hz; cases hz⟩
    · have hli : ¬ (0 : Int) < (B.length : Int) - (q : Int) := by omega
      have HD : Hid (RQ = some cs) := Lib.hid (by rw [HQ.out, List.drop_eq_nil_of_le (by omega)]; exact laysQ_done)
      go_wp2_with fail
      go_at_call 72
      refine (left_any wo g u B q 0 HR.out).mono ?_
      rintro e' w1 ⟨rfl, hck⟩
      replace HS := Lib.hid (HS.out.kept hck)
      replace HR := Lib.hid (HR.out.kept hck)
      replace HW := Lib.hid (HW.out.trans hck (fun _ _ h => h.elim))
      clear hck
      go_wp2
      go_ret
      exact ⟨cs, q, 0, by rw [HD.out]; rfl, HS.out, HL.out, HR.out, HW.out, fun z hz => by rw [HD.out] at hz; cases hz; rfl⟩
end Go.Proofs.YtmbdpcamhkdkmaaGreatDoor
