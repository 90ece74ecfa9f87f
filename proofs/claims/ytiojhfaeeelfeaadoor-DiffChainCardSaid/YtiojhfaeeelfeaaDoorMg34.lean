/-
  Chapter 14: Make, Apply over screens that may be; first.
  An argument that is a slice of structs whose fields are whole numbers: its cells.
  An argument that is a struct of three whole numbers, by value.
  Arguments that hold cells and screens: their reading.
-/
import Derived.Test.YtiojhfaeeelfeaaDoorDiff7M
import Derived.Test.YtiojhfaeeelfeaaDoorMg24
import Derived.Test.YtiojhfaeeelfeaaDoorMg22
import Derived.Test.YtiojhfaeeelfeaaDoorK
import Derived.Deep.Slices
import Derived.Deep.Fields
import Derived.ChangeSame
import Derived.Test.YtiojhfaeeelfeaaDoorMg18
import Derived.OpenShut
import Derived.Lib.LaidU8
namespace Go.Proofs.YtiojhfaeeelfeaaDoor
open Go.RowKit
set_option linter.unusedVariables false
set_option linter.unusedSimpArgs false

theorem Sc.may_len {s : Sc} (h : s.may = true) : s.l.length ≤ 12000 ∧ s.t.size ≤ 256 ∧ 1 ≤ s.l.length := by
  obtain ⟨⟨p1, q1⟩, ⟨p2, q2⟩, ⟨_, _⟩, ⟨_, _⟩, q3, _, q4⟩ := Sc.may_b h
  have h1 : s.r * s.c ≤ 60 * 200 := Int.mul_le_mul q1 q2 (by omega) (by omega)
  have h2 : (1 : Int) * 1 ≤ s.r * s.c := Int.mul_le_mul p1 p2 (by decide) (by omega)
  exact ⟨by omega, q4, by omega⟩
theorem dmake_ok (w : World) (a b : Sc) (va vb : Value) (ha : Rd w 5 va a.l.length (cellsV a.l)) (hb : Rd w 5 vb b.l.length (cellsV b.l)) (hma : a.may = true) (hmb : b.may = true) (ht : Tab w) :
    Calls Tryd.prog 24 #[scS a va, scS b vb] w fun e w' => ∃ x n, e = .returned (.tuple #[.slice x (diffL a b).length n, .int .i64 0]) ∧ By w' (.slice x (diffL a b).length n) (diffL a b) ∧ Chg w w' nob := by
  have h1 := Sc.may_len hma
  have h2 := Sc.may_len hmb
  have h := dmake_any w a b va vb ha hb (by omega) (by omega) (by omega) (by omega) ht
  rw [hma, hmb] at h
  refine h.mono ?_
  rintro e w' ⟨v, rfl, hbx⟩
  have hby := By.ofBx (show Bx w w' v (diffL a b) from hbx) (diffL_b a b)
  obtain ⟨x, n, rfl, _⟩ := hby.form
  exact ⟨x, n, rfl, hby, hbx.2.1⟩
/-- Apply of the one text that makes b. -/
theorem dapply_ok (w : World) (a b : Sc) (va vd : Value) (ha : Rd w 5 va a.l.length (cellsV a.l)) (hma : a.may = true) (hmb : b.may = true) (hd : By w vd (diffL a b)) (ht : Tab w) :
    Calls Tryd.prog 25 #[scS a va, vd] w fun e w' => ∃ x n, e = .returned (.tuple #[scS b (.slice x b.l.length n), .int .i64 0]) ∧ Cs w w' (.slice x b.l.length n) b.l ∧ Chg w w' nob := by
  have h1 := Sc.may_len hma
  have h2 := Sc.may_len hmb
  have hlen : (diffL a b).length ≤ 1000000 := by
    have h3 := keyD_len b
    have h4 := headD_len b
    have h5 := strL_len a.l.length 0 a.l b.l (Nat.le_refl _) (by omega)
    unfold diffL
    split
    · simp only [List.length_cons]; omega
    · simp only [List.length_cons, List.length_append]; omega
  refine (dapply_any w a va ha (by omega) (by omega) vd _ hd hlen ht).mono ?_
  rintro e w' ⟨hc, h⟩
  cases h with
  | range h he => rw [hma] at h; cases h
  | none h hq he => rw [applyQ_there hma hmb] at hq; cases hq
  | some s x n h hq he hcs =>
    rw [applyQ_there hma hmb] at hq
    cases hq
    exact ⟨x, n, he, hcs, hc⟩
def blankS : Sc := ⟨1, 2, List.replicate 2 .blank, 0, 0, false, ByteArray.empty⟩
theorem diff_first : diffL blankS blankS = [0, 0, 0, 0, 0] := by
  have h1 : varL 0 = [0] := by rw [varL_lt (by decide)]; rfl
  have e : headD blankS = varL 0 ++ (varL 0 ++ (varL 0 ++ (varL 0 ++ []))) := rfl
  unfold diffL
  rw [if_neg (by simp), e, h1]
  show 0 :: ([0] ++ ([0] ++ ([0] ++ ([0] ++ []))) ++ strL 0 [Ce.blank, Ce.blank] [Ce.blank, Ce.blank]) = _
  rw [strL_same, strL_same, strL_nil]
  rfl
theorem blank12 (w : World) : Calls Tryd.prog 27 #[.int .i64 1, .int .i64 2] w fun e w' => ∃ a n, e = .returned (.tuple #[scS blankS (.slice a blankS.l.length n), .int .i64 0]) ∧ Cs w w' (.slice a blankS.l.length n) blankS.l ∧ Chg w w' nob := by
  refine (blank_ok w 1 2 (by decide)).mono ?_
  rintro e w' ⟨v, rfl, ho, hc, hf⟩
  obtain ⟨a, n, rfl, _⟩ := ho.form
  exact ⟨a, n, rfl, ⟨ho, hf⟩, hc⟩
theorem blank_may : blankS.may = true := may_first
theorem same_scs (w : World) (s : Sc) (va vb : Value) (ha : Rd w 5 va s.l.length (cellsV s.l)) (hb : Rd w 5 vb s.l.length (cellsV s.l)) (hl : s.l.length ≤ 1000000) :
    Calls Tryd.prog 21 #[scS s va, scS s vb] w fun e w' => e = .returned (.bool true) ∧ Chg w w' nob := by
  refine (same_any w s s va vb ha hb hl).mono ?_
  rintro e w' ⟨rfl, hc⟩
  exact ⟨by simp, hc⟩
set_option maxRecDepth 100000 in
set_option maxHeartbeats 4000000 in
theorem dfirst_any (w : World) (ht : Tab w) : Calls Tryd.prog 23 #[] w fun e w' => e = .returned (.bool true) ∧ Chg w w' nob := by
  have HT := Lib.hid ht
  obtain ⟨b0, hb0⟩ : ∃ b, blankS = b := ⟨_, rfl⟩
  have HM : Hid (b0.may = true) := Lib.hid (by rw [← hb0]; exact blank_may)
  have hll := (Sc.may_len HM.out).1
  have HDF : Hid (diffL b0 b0 = [0, 0, 0, 0, 0]) := Lib.hid (by rw [← hb0]; exact diff_first)
  have HBL := Lib.hid (blank12 w)
  rw [hb0] at HBL
  clear ht hb0
  go_enter Tryd.func23, Tryd.ntmps23
  go_wp2_with fail
  go_at_call 27
  refine HBL.out.mono ?_
  rintro e w1 ⟨a1, n1, rfl, hcs, hck⟩
  have HC := Lib.hid hck
  go_upto_region 2 with (fail)
  obtain ⟨w2, hw⟩ : ∃ W, w1.alloc (.cells (scL b0 (.slice a1 b0.l.length n1)) 26) = W := ⟨_, rfl⟩
  have hck2 : Chg w1 w2 nob := by rw [← hw]; exact (Chg.refl w1 nob).alloc _
  have HX : Hid (Blk w2 w1.heap.size 26 (scL b0 (.slice a1 b0.l.length n1))) := Lib.hid (by rw [← hw]; exact Blk.new w1 _ _)
  have HS := Lib.hid (hcs.kept hck2)
  rw [hw]
  clear hw hcs hck HBL
  obtain ⟨ix, hix⟩ : ∃ i, w1.heap.size = i := ⟨_, rfl⟩
  rw [hix] at HX ⊢
  clear hix
  replace HC := Lib.hid (HC.out.trans hck2 (fun _ _ h => h))
  clear hck2
  have x0 := HX.out.cell 0
  have x1 := HX.out.cell 1
  have x2 := HX.out.cell 2
  have x3 := HX.out.cell 3
  have x4 := HX.out.cell 4
  have x5 := HX.out.cell 5
  have x6 := HX.out.cell 6
  simp only [List.getElem?_toArray, List.getElem?_cons_zero, List.getElem?_cons_succ] at x0 x1 x2 x3 x4 x5 x6
  have HMK := Lib.hid (dmake_ok w2 b0 b0 _ _ HS.out.1.rd HS.out.1.rd HM.out HM.out (HT.out.kept HC.out))
  obtain ⟨D, hD⟩ : ∃ D, diffL b0 b0 = D := ⟨_, rfl⟩
  rw [hD] at HMK HDF
  go_wp2_with fail
  go_at_call 24
  refine HMK.out.mono ?_
  rintro e w3 ⟨ad, nd, rfl, hby, hck⟩
  have HD := Lib.hid hby
  replace HX := Lib.hid (HX.out.kept hck id)
  replace HS := Lib.hid (HS.out.kept hck)
  replace HC := Lib.hid (HC.out.trans hck (fun _ _ h => h))
  clear hby hck HMK x0 x1 x2 x3 x4 x5 x6
  have x0 := HX.out.cell 0
  have x1 := HX.out.cell 1
  have x2 := HX.out.cell 2
  have x3 := HX.out.cell 3
  have x4 := HX.out.cell 4
  have x5 := HX.out.cell 5
  have x6 := HX.out.cell 6
  simp only [List.getElem?_toArray, List.getElem?_cons_zero, List.getElem?_cons_succ] at x0 x1 x2 x3 x4 x5 x6
  have HAP := Lib.hid (dapply_ok w3 b0 b0 _ (.slice ad D.length nd) HS.out.1.rd HM.out HM.out (by rw [hD]; exact HD.out) (HT.out.kept HC.out))
  clear hD
  go_wp2_with fail
  go_at_call 25
  refine HAP.out.mono ?_
  rintro e w4 ⟨a2, n2, rfl, hcs, hck⟩
  replace HX := Lib.hid (HX.out.kept hck id)
  replace HS := Lib.hid (HS.out.kept hck)
  replace HD := Lib.hid (HD.out.kept hck)
  replace HC := Lib.hid (HC.out.trans hck (fun _ _ h => h))
  clear hck HAP x0 x1 x2 x3 x4 x5 x6
  go_upto_region 4 with (fail)
  obtain ⟨w5, hw⟩ : ∃ W, w4.alloc (.cells (scL b0 (.slice a2 b0.l.length n2)) 26) = W := ⟨_, rfl⟩
  have hck : Chg w4 w5 nob := by rw [← hw]; exact (Chg.refl w4 nob).alloc _
  have HY : Hid (Blk w5 w4.heap.size 26 (scL b0 (.slice a2 b0.l.length n2))) := Lib.hid (by rw [← hw]; exact Blk.new w4 _ _)
  have HS2 := Lib.hid (hcs.kept hck)
  rw [hw]
  clear hw hcs
  obtain ⟨iy, hiy⟩ : ∃ i, w4.heap.size = i := ⟨_, rfl⟩
  rw [hiy] at HY ⊢
  clear hiy
  replace HX := Lib.hid (HX.out.kept hck id)
  replace HS := Lib.hid (HS.out.kept hck)
  replace HD := Lib.hid (HD.out.kept hck)
  replace HC := Lib.hid (HC.out.trans hck (fun _ _ h => h))
  clear hck
  have HBY : Hid (By w5 (.slice ad D.length nd) D) := HD
  go_wp2_with fail
  go_at_call 22
  have hlit := By.lit w5 [0, 0, 0, 0, 0] (by decide)
  refine (bytes_by (HBY.out.alloc _) hlit).mono ?_
  rw [decide_eq_true HDF.out]
  rintro e w6 ⟨rfl, hw6⟩
  have hck : Chg w5 w6 nob := by rw [← hw6]; exact (Chg.refl w5 nob).alloc _
  clear hw6 hlit
  replace HX := Lib.hid (HX.out.kept hck id)
  replace HY := Lib.hid (HY.out.kept hck id)
  replace HS := Lib.hid (HS.out.kept hck)
  replace HS2 := Lib.hid (HS2.out.kept hck)
  replace HC := Lib.hid (HC.out.trans hck (fun _ _ h => h))
  clear hck
  have x0 := HX.out.cell 0
  have x1 := HX.out.cell 1
  have x2 := HX.out.cell 2
  have x3 := HX.out.cell 3
  have x4 := HX.out.cell 4
  have x5 := HX.out.cell 5
  have x6 := HX.out.cell 6
  simp only [List.getElem?_toArray, List.getElem?_cons_zero, List.getElem?_cons_succ] at x0 x1 x2 x3 x4 x5 x6
  have y0 := HY.out.cell 0
  have y1 := HY.out.cell 1
  have y2 := HY.out.cell 2
  have y3 := HY.out.cell 3
  have y4 := HY.out.cell 4
  have y5 := HY.out.cell 5
  have y6 := HY.out.cell 6
  simp only [List.getElem?_toArray, List.getElem?_cons_zero, List.getElem?_cons_succ] at y0 y1 y2 y3 y4 y5 y6
  go_wp2_with fail
  go_at_call 21
  refine (same_scs w6 b0 _ _ HS.out.1.rd HS2.out.1.rd (by omega)).mono ?_
  rintro e w7 ⟨rfl, hck⟩
  replace HC := Lib.hid (HC.out.trans hck (fun _ _ h => h))
  clear hck
  go_wp2
  go_ret
  exact ⟨rfl, HC.out⟩
end Go.Proofs.YtiojhfaeeelfeaaDoor

namespace Go.Proofs.YtiojhfaeeelfeaaDoor
open Go.ChangeShapes Go.WideShapes Go.Deep Go.RowKit
set_option linter.unusedVariables false

def fieldsOf (P : Program) (e : TypeId) : Array Field := match P.underlying e with | some (.struct fs) => fs | _ => #[]

section
variable {H : Type} {enc : TypeId × Value → H} {P : Program} {w : World} {base : Nat} {spare : Nat → Bool} {held : Bool}
theorem recs_cells {t e : TypeId} {c : Nat} {fuel : Nat} {a : Option Addr} {len cap : Nat} {x : DataW H × List MemPlace} (ht : P.underlying t = some (.slice e)) (hC : P.cellsOf e = c) (hc0 : 0 < c)
    (h : DataW.trod enc P w base spare held fuel t [.slice a len cap] = some x) : ∀ i, i < len →
      ∃ b o cs n y, a = some ⟨b, o, none⟩ ∧ cs.length = c ∧ (∀ j, j < c → w.cell? ⟨b, o + i * c + j, none⟩ = cs[j]?) ∧ DataW.trod enc P w base spare held n e cs = some y := by
  intro i hi
  rcases open_slice ht h with ⟨h0, _⟩ | ⟨a', len', cap', m, n, D, Pl, hcs, hb, hl, hm, hmm, hx, hrow⟩
  · cases h0; omega
  · cases hcs
    have him : i < m := by rw [hmm]; split <;> omega
    have h0 : w.cell? ((a'.add (0 * c)).add 0) ≠ none := by
      obtain ⟨cs0, hc, _⟩ := hrow 0 (by omega)
      rw [hC] at hc
      obtain ⟨_, hcl, hat⟩ := World.cells?_some hc
      rw [hat 0 hc0, List.getElem?_eq_getElem (by omega)]
      simp
    obtain ⟨cs', hc, ht'⟩ := hrow i him
    rw [hC] at hc
    obtain ⟨_, hcl, hat⟩ := World.cells?_some hc
    cases a' with
    | mk b o s =>
      cases s with
      | none => exact ⟨b, o, cs', n, _, rfl, hcl, fun j hj => by rw [← hat j hj, Addr.add_lit, Addr.add_lit], ht'⟩
      | some s =>
        exfalso
        refine h0 ?_
        simp only [Addr.add, Nat.zero_mul, if_true, World.cell?, Option.isSome_some]
        split <;> rfl
theorem recs_ints {t e : TypeId} {fuel : Nat} {a : Option Addr} {len cap : Nat} {x : DataW H × List MemPlace} (ks : List IntKind) (ht : P.underlying t = some (.slice e)) (he : P.underlying e = some (.struct (fieldsOf P e)))
    (hone : oneCellFields P (fieldsOf P e) = true) (hk : (fieldsOf P e).toList.map (fun f => P.underlying f.type) = ks.map fun k => some (.int k)) (hC : P.cellsOf e = ks.length) (hc0 : 0 < ks.length)
    (h : DataW.trod enc P w base spare held fuel t [.slice a len cap] = some x) : ∀ i, i < len →
      ∃ b o, a = some ⟨b, o, none⟩ ∧ ∀ j k, ks[j]? = some k → ∃ z, w.cell? ⟨b, o + i * ks.length + j, none⟩ = some (.int k z) ∧ (Lit.int k z).wf = true := by
  intro i hi
  obtain ⟨b, o, cs, n, y, rfl, hcl, hat, ht'⟩ := recs_cells ht hC hc0 h i hi
  refine ⟨b, o, rfl, fun j k hj => ?_⟩
  obtain ⟨ys, n', hn', hy, hlen, hyl, hf⟩ := DataW.trod_struct he ht'
  have hjl : j < ks.length := (List.getElem?_eq_some_iff.1 hj).1
  have hfl : (fieldsOf P e).size = ks.length := by have := congrArg List.length hk; simpa using this
  obtain ⟨f, hfj⟩ : ∃ f, (fieldsOf P e)[j]? = some f := ⟨_, Array.getElem?_eq_getElem (by omega)⟩
  obtain ⟨ho, h1⟩ := hone_of hone j f hfj
  have hu : P.underlying f.type = some (.int k) := by
    have := congrArg (fun l => l[j]?) hk
    simp only [List.getElem?_map, Array.getElem?_toList, hfj, hj, Option.map_some] at this
    exact Option.some.inj this
  have hv := hf j f hfj
  rw [ho, h1, List.drop_eq_getElem_cons (by omega)] at hv
  simp only [List.take_succ_cons, List.take_zero] at hv
  have hys : ys[j]? = some (ys[j]'(by omega)) := List.getElem?_eq_getElem (by omega)
  rw [hys] at hv
  obtain ⟨z, hz, _, hwf⟩ := DataW.trod_int hu hv
  refine ⟨z, ?_, hwf⟩
  rw [hat j hjl, List.getElem?_eq_getElem (by omega)]
  exact congrArg some (List.cons.inj hz).1
end
end Go.Proofs.YtiojhfaeeelfeaaDoor

namespace Go.Proofs.YtiojhfaeeelfeaaDoor
open Go.ChangeShapes Go.WideShapes Go.Deep Go.RowKit
set_option linter.unusedVariables false
section
variable {H : Type} {enc : TypeId × Value → H} {P : Program} {w : World} {base : Nat} {spare : Nat → Bool} {held : Bool}
theorem struct_ints {e : TypeId} {fuel : Nat} {cs : List Value} {y : DataW H × List MemPlace} (ks : List IntKind) (he : P.underlying e = some (.struct (fieldsOf P e)))
    (hone : oneCellFields P (fieldsOf P e) = true) (hk : (fieldsOf P e).toList.map (fun f => P.underlying f.type) = ks.map fun k => some (TypeDesc.int k)) (hcl : cs.length = ks.length)
    (ht' : DataW.trod enc P w base spare held fuel e cs = some y) : ∀ (j : Nat) (k : IntKind), ks[j]? = some k → ∃ z : Int, cs[j]? = some (Value.int k z) ∧ (Lit.int k z).wf = true := by
  intro j k hj
  obtain ⟨ys, n', hn', hy, hlen, hyl, hf⟩ := DataW.trod_struct he ht'
  have hjl : j < ks.length := (List.getElem?_eq_some_iff.1 hj).1
  have hfl : (fieldsOf P e).size = ks.length := by have := congrArg List.length hk; simpa using this
  obtain ⟨f, hfj⟩ : ∃ f, (fieldsOf P e)[j]? = some f := ⟨_, Array.getElem?_eq_getElem (by omega)⟩
  obtain ⟨ho, h1⟩ := hone_of hone j f hfj
  have hu : P.underlying f.type = some (.int k) := by
    have := congrArg (fun l => l[j]?) hk
    simp only [List.getElem?_map, Array.getElem?_toList, hfj, hj, Option.map_some] at this
    exact Option.some.inj this
  have hv := hf j f hfj
  rw [ho, h1, List.drop_eq_getElem_cons (by omega)] at hv
  simp only [List.take_succ_cons, List.take_zero] at hv
  have hys : ys[j]? = some (ys[j]'(by omega)) := List.getElem?_eq_getElem (by omega)
  rw [hys] at hv
  obtain ⟨z, hz, _, hwf⟩ := DataW.trod_int hu hv
  refine ⟨z, ?_, hwf⟩
  rw [List.getElem?_eq_getElem (by omega)]
  exact congrArg some (List.cons.inj hz).1
theorem agg3_ints {t : TypeId} {r : Reach} {b0 : Nat} {v : Value} {d : DataW H} {p : List MemPlace} (he : P.underlying t = some (.struct (fieldsOf P t)))
    (hone : oneCellFields P (fieldsOf P t) = true) (hk : (fieldsOf P t).toList.map (fun f => P.underlying f.type) = ([.i64, .i64, .i64] : List IntKind).map fun k => some (TypeDesc.int k)) (hC : P.cellsOf t = 3)
    (hv : Value.okWide P w r b0 t v) (h : DataW.Trod enc P w base spare held t v d p) :
    ∃ x y z : Int, v = .agg #[.int .i64 x, .int .i64 y, .int .i64 z] ∧ (Lit.int .i64 x).wf = true ∧ (Lit.int .i64 y).wf = true ∧ (Lit.int .i64 z).wf = true := by
  obtain ⟨cs, rfl, hsz⟩ := okWide_struct he hv
  rw [hC] at hsz
  obtain ⟨fuel, hf⟩ := h
  obtain ⟨l⟩ := cs
  match l, hsz, hf with
  | [c0, c1, c2], _, hf =>
    have hs := struct_ints [.i64, .i64, .i64] he hone hk (cs := [c0, c1, c2]) rfl (by simpa [Value.cells] using hf)
    obtain ⟨x, h0, w0⟩ := hs 0 .i64 rfl
    obtain ⟨y, h1, w1⟩ := hs 1 .i64 rfl
    obtain ⟨z, h2, w2⟩ := hs 2 .i64 rfl
    cases h0; cases h1; cases h2
    exact ⟨x, y, z, rfl, w0, w1, w2⟩
end
end Go.Proofs.YtiojhfaeeelfeaaDoor

namespace Go.Proofs.YtiojhfaeeelfeaaDoor
open Go.ChangeShapes Go.WideShapes Go.Deep Go.RowKit
set_option linter.unusedVariables false
section
variable {H : Type} {enc : TypeId × Value → H} {w : World} {base : Nat} {spare : Nat → Bool} {held : Bool}
theorem u_attr : Tryd.prog.underlying 52 = some (.struct (fieldsOf Tryd.prog 52)) := by kernel_rfl
theorem u_cell : Tryd.prog.underlying 54 = some (.struct (fieldsOf Tryd.prog 54)) := by kernel_rfl
theorem u_screen : Tryd.prog.underlying 26 = some (.struct (fieldsOf Tryd.prog 26)) := by kernel_rfl
theorem u_int : Tryd.prog.underlying 3 = some (.int .i64) := by kernel_rfl
theorem u_bool : Tryd.prog.underlying 4 = some .bool := by kernel_rfl
theorem u_rune : Tryd.prog.underlying 21 = some (.int .i32) := by kernel_rfl
set_option maxRecDepth 100000 in
/-- The cells of one cell. -/
theorem cell_of_trod {n : Nat} {cs : List Value} {y : DataW H × List MemPlace} (h : DataW.trod enc Tryd.prog w base spare held n 54 cs = some y) : ∃ c : Ce, cs = c.cs ∧ c.wf := by
  obtain ⟨xs, m, rfl, _, hl, hxl, hf⟩ := DataW.trod_struct u_cell h
  have h5 : cs.length = 5 := by rw [hl]; kernel_rfl
  obtain ⟨f0, hf0, o0, c0, t0⟩ : ∃ f, (fieldsOf Tryd.prog 54)[0]? = some f ∧ f.offset = 0 ∧ Tryd.prog.cellsOf f.type = 1 ∧ f.type = 21 := ⟨_, rfl, rfl, by kernel_rfl, rfl⟩
  obtain ⟨f1, hf1, o1, c1, t1⟩ : ∃ f, (fieldsOf Tryd.prog 54)[1]? = some f ∧ f.offset = 1 ∧ Tryd.prog.cellsOf f.type = 3 ∧ f.type = 52 := ⟨_, rfl, rfl, by kernel_rfl, rfl⟩
  obtain ⟨f2, hf2, o2, c2, t2⟩ : ∃ f, (fieldsOf Tryd.prog 54)[2]? = some f ∧ f.offset = 4 ∧ Tryd.prog.cellsOf f.type = 1 ∧ f.type = 3 := ⟨_, rfl, rfl, by kernel_rfl, rfl⟩
  have hsz : (fieldsOf Tryd.prog 54).size = 3 := by kernel_rfl
  match cs, h5 with
  | [v0, v1, v2, v3, v4], _ =>
    have e0 := hf 0 f0 hf0
    have e1 := hf 1 f1 hf1
    have e2 := hf 2 f2 hf2
    rw [o0, c0, t0] at e0
    rw [o1, c1, t1] at e1
    rw [o2, c2, t2] at e2
    simp only [List.drop_zero, List.drop_succ_cons, List.take_succ_cons, List.take_zero] at e0 e1 e2
    obtain ⟨x0, hx0⟩ : ∃ x, xs[0]? = some x := ⟨_, List.getElem?_eq_getElem (by omega)⟩
    obtain ⟨x1, hx1⟩ : ∃ x, xs[1]? = some x := ⟨_, List.getElem?_eq_getElem (by omega)⟩
    obtain ⟨x2, hx2⟩ : ∃ x, xs[2]? = some x := ⟨_, List.getElem?_eq_getElem (by omega)⟩
    rw [hx0] at e0
    rw [hx1] at e1
    rw [hx2] at e2
    obtain ⟨a, ha, _, wa⟩ := DataW.trod_int u_rune e0
    obtain ⟨d, hd, _, wd⟩ := DataW.trod_int u_int e2
    have hs := struct_ints [.i64, .i64, .i64] u_attr (by kernel_rfl) (by kernel_rfl) (cs := [v1, v2, v3]) rfl e1
    obtain ⟨f, h1, w1⟩ := hs 0 .i64 rfl
    obtain ⟨g, h2, w2⟩ := hs 1 .i64 rfl
    obtain ⟨b, h3, w3⟩ := hs 2 .i64 rfl
    cases ha; cases hd; cases h1; cases h2; cases h3
    exact ⟨⟨a, f, g, b, d⟩, rfl, wa, w1, w2, w3, wd⟩
set_option maxRecDepth 100000 in
/-- A cell by value. -/
theorem cell_open {r : Reach} {b0 : Nat} {v : Value} {d : DataW H} {p : List MemPlace} (hv : Value.okWide Tryd.prog w r b0 54 v) (h : DataW.Trod enc Tryd.prog w base spare held 54 v d p) : ∃ c : Ce, v = c.val ∧ c.wf := by
  obtain ⟨cs, rfl, hsz⟩ := okWide_struct u_cell hv
  obtain ⟨fuel, hf⟩ := h
  obtain ⟨c, hc, hw⟩ := cell_of_trod (by simpa [Value.cells] using hf)
  refine ⟨c, ?_, hw⟩
  have : cs = c.cs.toArray := by rw [← hc]
  rw [this]; rfl
set_option maxRecDepth 100000 in
/-- A slice of cells. -/
theorem cells_open {fuel : Nat} {cs : List Value} {x : DataW H × List MemPlace} (h : DataW.trod enc Tryd.prog w base spare held fuel 24 cs = some x) :
    ∃ va l, cs = [va] ∧ Rd w 5 va l.length (cellsV l) ∧ NilOk va ∧ ∀ c ∈ l, Ce.wf c := by
  rcases DataW.trod_slice u_cells h with ⟨rfl, _⟩ | ⟨a, len, cap, elems, rest, n, _, rfl, _, _, hlc, _, _⟩
  · exact ⟨_, [], rfl, ⟨none, 0, rfl, Nat.le_refl _, rfl, fun j u hu => by simp [cellsV] at hu⟩, fun n c hv => by cases hv; rfl, fun c hc => by cases hc⟩
  · have hr := recs_cells u_cells (show Tryd.prog.cellsOf 54 = 5 by kernel_rfl) (by decide) h
    have hc : ∀ i, i < len → ∃ c : Ce, c.wf ∧ ∃ b o, a = ⟨b, o, none⟩ ∧ ∀ j, j < 5 → w.cell? ⟨b, o + i * 5 + j, none⟩ = c.cs[j]? := fun i hi => by
      obtain ⟨b, o, cs, n, y, ha, hcl, hat, ht⟩ := hr i hi
      obtain ⟨c, rfl, hw⟩ := cell_of_trod ht
      exact ⟨c, hw, b, o, by cases ha; rfl, hat⟩
    obtain ⟨F, hF⟩ : ∃ F : Nat → Ce, ∀ i, i < len → (F i).wf ∧ ∃ b o, a = ⟨b, o, none⟩ ∧ ∀ j, j < 5 → w.cell? ⟨b, o + i * 5 + j, none⟩ = (F i).cs[j]? :=
      ⟨fun i => if h : i < len then Classical.choose (hc i h) else .z, fun i hi => by simp only [dif_pos hi]; exact Classical.choose_spec (hc i hi)⟩
    have hll : ((List.range len).map F).length = len := by simp
    refine ⟨_, (List.range len).map F, rfl, ⟨some a, cap, by rw [hll], by rw [hll]; exact hlc, cellsV_len _, fun j u hu => ?_⟩, fun n c hv => (by cases hv), fun c hc => ?_⟩
    · have hj := (List.getElem?_eq_some_iff.1 hu).1
      rw [cellsV_len, hll] at hj
      have hi : j / 5 < len := by omega
      obtain ⟨_, b, o, ha, hat⟩ := hF (j / 5) hi
      have hget : ((List.range len).map F)[j / 5]? = some (F (j / 5)) := by simp [hi]
      have hcv := cellsV_at _ _ _ hget (j % 5) (by omega)
      rw [show j / 5 * 5 + j % 5 = j by omega, hu] at hcv
      have hw := hat (j % 5) (by omega)
      rw [← hcv, show o + j / 5 * 5 + j % 5 = o + j by omega] at hw
      exact ⟨b, o, by rw [ha], hw⟩
    · obtain ⟨i, hi, rfl⟩ := List.mem_map.1 hc
      exact (hF i (by simpa using hi)).1
set_option maxRecDepth 100000 in
/-- A screen by value. -/
theorem screen_open {r : Reach} {b0 : Nat} {v : Value} {d : DataW H} {p : List MemPlace} (hv : Value.okWide Tryd.prog w r b0 26 v) (h : DataW.Trod enc Tryd.prog w base spare held 26 v d p) :
    ∃ (rr cc y x : Int) (h : Bool) (t : ByteArray) (va : Value) (l : List Ce), v = scV rr cc va y x h t ∧ Rd w 5 va l.length (cellsV l) ∧ NilOk va ∧ (∀ c ∈ l, Ce.wf c) ∧ (Lit.int .i64 rr).wf = true ∧ (Lit.int .i64 cc).wf = true ∧ (Lit.int .i64 y).wf = true ∧ (Lit.int .i64 x).wf = true := by
  obtain ⟨cs, rfl, hsz⟩ := okWide_struct u_screen hv
  have h7 : cs.size = 7 := by rw [hsz]; kernel_rfl
  obtain ⟨fuel, hf⟩ := h
  obtain ⟨k⟩ := cs
  simp only [Value.cells] at hf
  obtain ⟨xs, m, rfl, _, _, hxl, hfl⟩ := DataW.trod_struct u_screen hf
  have hs7 : (fieldsOf Tryd.prog 26).size = 7 := by kernel_rfl
  have ft : ∀ j : Nat, ∀ T : TypeId, ((fieldsOf Tryd.prog 26)[j]?).map (fun f => (f.offset, f.type, Tryd.prog.cellsOf f.type)) = some (j, T, 1) → ∀ v, k[j]? = some v → ∃ x, DataW.trod enc Tryd.prog w base spare held m T [v] = some x := by
    intro j T hT v hj
    obtain ⟨f, hfj, he⟩ := Option.map_eq_some_iff.1 hT
    obtain ⟨ho, ht, hc⟩ := by simpa using he
    have e := hfl j f hfj
    have hjl := (List.getElem?_eq_some_iff.1 hj).1
    rw [ho, hc, ht, List.drop_eq_getElem_cons hjl] at e
    simp only [List.take_succ_cons, List.take_zero] at e
    have hjs : j < (fieldsOf Tryd.prog 26).size := (Array.getElem?_eq_some_iff.1 hfj).1
    rw [List.getElem?_eq_getElem (show j < xs.length by omega), show k[j] = v from Option.some.inj ((List.getElem?_eq_getElem hjl).symm.trans hj)] at e
    exact ⟨_, e⟩
  match k, h7, ft with
  | [v0, v1, v2, v3, v4, v5, v6], _, ft =>
    obtain ⟨_, e0⟩ := ft 0 3 (by kernel_rfl) v0 rfl
    obtain ⟨_, e1⟩ := ft 1 3 (by kernel_rfl) v1 rfl
    obtain ⟨_, e2⟩ := ft 2 24 (by kernel_rfl) v2 rfl
    obtain ⟨_, e3⟩ := ft 3 3 (by kernel_rfl) v3 rfl
    obtain ⟨_, e4⟩ := ft 4 3 (by kernel_rfl) v4 rfl
    obtain ⟨_, e5⟩ := ft 5 4 (by kernel_rfl) v5 rfl
    obtain ⟨_, e6⟩ := ft 6 9 (by kernel_rfl) v6 rfl
    obtain ⟨i0, h0, _, w0⟩ := DataW.trod_int u_int e0
    obtain ⟨i1, h1, _, w1⟩ := DataW.trod_int u_int e1
    obtain ⟨va, l, h2, hrd, hnk, hwf⟩ := cells_open e2
    obtain ⟨i3, h3, _, w3⟩ := DataW.trod_int u_int e3
    obtain ⟨i4, h4, _, w4⟩ := DataW.trod_int u_int e4
    obtain ⟨b5, h5, _⟩ := DataW.trod_bool u_bool e5
    obtain ⟨s6, h6, _⟩ := DataW.trod_string u_string e6
    cases h0; cases h1; cases h2; cases h3; cases h4; cases h5; cases h6
    exact ⟨i0, i1, i3, i4, b5, s6, _, l, rfl, hrd, hnk, hwf, w0, w1, w3, w4⟩
end
end Go.Proofs.YtiojhfaeeelfeaaDoor
