/-
  Package key: ReadCells: what was given up is no cells.
  Are bytes alike (bytes.Equal, tikref.Bytes)?
-/
import Derived.Test.YtmbdpcamhkdkmaaGreatDoorMg25
import Derived.Test.YtmbdpcamhkdkmaaGreatDoorMg8
import Derived.Test.YtmbdpcamhkdkmaaGreatDoorMg5
namespace Go.Proofs.YtmbdpcamhkdkmaaGreatDoor
open Go.RowKit
set_option linter.unusedVariables false
set_option linter.unusedSimpArgs false

set_option maxRecDepth 100000 in
theorem given_nil (w : World) : Calls Tryz.prog 79 #[.nilIface] w fun e' w' => e' = .returned (.bool false) ∧ w = w' := by
  go_enter Tryz.func79, Tryz.ntmps79
  go_wp2
  go_ret
  exact ⟨rfl, rfl⟩
set_option maxRecDepth 100000 in
theorem given_stop (w : World) : Calls Tryz.prog 79 #[.iface 121 (.agg #[])] w fun e' w' => e' = .returned (.bool true) ∧ Chg w w' nob := by
  have hta : ∀ w : World, (Instr.typeAssert (.iface 121 (.agg #[])) 20 121 true).run Tryz.prog w = .ok (.tuple #[.agg #[], .bool true]) w := fun _ => by rfl
  go_enter Tryz.func79, Tryz.ntmps79
  go_wp2
  go_ret
  exact ⟨rfl, (Chg.refl w nob).alloc _⟩
def pair (w : World) (il io : Nat) (v : Value) (b : Bool) : Prop := Blk w il 22 #[v] ∧ Blk w io 4 #[.bool b]
theorem pair.ne {w : World} {il io : Nat} {v : Value} {b : Bool} (h : pair w il io v b) : il ≠ io := fun e => by
  subst e; have h1 := (h.1.inj h.2).1; revert h1; decide
theorem pair.kept {w w' : World} {il io : Nat} {v : Value} {b : Bool} (h : pair w il io v b) (hc : Chg w w' nob) : pair w' il io v b := ⟨h.1.kept hc (fun h => h), h.2.kept hc (fun h => h)⟩
theorem pair.set {w : World} {il io : Nat} {v : Value} {b : Bool} (h : pair w il io v b) (v' : Value) (b' : Bool) : pair ((w.setCell ⟨il, 0, none⟩ v').setCell ⟨io, 0, none⟩ (.bool b')) il io v' b' :=
  ⟨(h.1.set 0 v').other (p := ⟨io, 0, none⟩) h.ne _, (h.2.other (p := ⟨il, 0, none⟩) (Ne.symm h.ne) v').set 0 _⟩
set_option maxRecDepth 100000 in
set_option maxHeartbeats 2000000 in
theorem kcat_pan (w : World) (il io : Nat) (v : Value) (b : Bool) (h : pair w il io v b) :
    CallsD Tryz.prog 78 #[ptr il, ptr io] (.panicking [{ v := .iface 121 (.agg #[]), recovered := false }]) w fun e' u' w' =>
      e' = .returned (.tuple #[]) ∧ u' = .panicking [{ v := .iface 121 (.agg #[]), recovered := true }] ∧ pair w' il io (.slice none 0 0) false ∧ Chg w w' (fun k => k = il ∨ k = io) := by
  have HH := Lib.hid h
  clear h
  refine callsD_of_wpS Tryz.func78 rfl fun c₀ cs hu => ?_
  simp only [Tryz.ntmps78, List.size_toArray, List.length_cons, List.length_nil, Nat.reduceAdd, Nat.reduceSub, Array.replicate_succ, Array.replicate_zero, List.push_toArray, List.append_toArray, List.nil_append, List.cons_append]
  apply wpS_seq
  apply wpS_region
  simp [wpOpsS, go_sem, recoverD, hu, Exit.thenS]
  refine (given_stop w).mono ?_
  rintro e' w2 ⟨rfl, hc⟩
  have H2 := Lib.hid (HH.out.kept hc)
  have HC := Lib.hid hc
  clear hc
  have sl := H2.out.1.cell 0
  have so := H2.out.2.cell 0
  simp only [List.getElem?_toArray, List.getElem?_cons_zero] at sl so
  have fl := H2.out.1.free 0
  have fo := H2.out.2.free 0
  have hne := H2.out.ne
  have hne2 := Ne.symm hne
  simp only []
  refine wpS_of_wp ?_
  generalize hQ : (fun (e : Exit) (a' : Act) (w' : World) => bodyPostS _ _ _ _ _ e a' _ w') = Q
  have HQ := Lib.hid hQ
  clear hQ
  go_wp2
  rw [← HQ.out]
  exact ⟨rfl, _, rfl, _, results_none rfl _ _ _, rfl, rfl, H2.out.set _ _, ((HC.out.mono (G := fun k => k = il ∨ k = io) (fun _ _ h => h.elim)).setCell (p := ⟨il, 0, none⟩) (.inl (.inl rfl)) _).setCell (p := ⟨io, 0, none⟩) (.inl (.inr rfl)) _⟩
set_option maxRecDepth 100000 in
set_option maxHeartbeats 2000000 in
theorem kcat_ret (w : World) (il io : Nat) :
    CallsD Tryz.prog 78 #[ptr il, ptr io] .returning w fun e' u' w' => e' = .returned (.tuple #[]) ∧ u' = .returning ∧ w = w' := by
  refine callsD_of_wpS Tryz.func78 rfl fun c₀ cs hu => ?_
  simp only [Tryz.ntmps78, List.size_toArray, List.length_cons, List.length_nil, Nat.reduceAdd, Nat.reduceSub, Array.replicate_succ, Array.replicate_zero, List.push_toArray, List.append_toArray, List.nil_append, List.cons_append]
  apply wpS_seq
  apply wpS_region
  simp [wpOpsS, go_sem, recoverD, hu, Exit.thenS]
  refine (given_nil w).mono ?_
  rintro e' w2 ⟨rfl, rfl⟩
  simp only []
  refine wpS_of_wp ?_
  generalize hQ : (fun (e : Exit) (a' : Act) (w' : World) => bodyPostS _ _ _ _ _ e a' _ w') = Q
  have HQ := Lib.hid hQ
  clear hQ
  go_wp2
  rw [← HQ.out]
  exact ⟨rfl, .returning, by rw [← hu], _, results_none rfl _ _ _, rfl, rfl, rfl⟩
/-- What a reading of cells comes to. -/
def RdCells (w w' : World) (g : Nat) (u : Value) (B : List Int) (p : Nat) (e : Int) (n : Int) (e' : Ending) : Prop :=
  Chg w w' (fun k => k = g) ∧ ∃ q er, RdrR w' g u B q er ∧ ((0 ≤ n ∧ n ≤ 12000 ∧ er = e ∧ (e = 0 ∨ n = 0) ∧ ∃ v cs, e' = .returned (.tuple #[v, .bool true]) ∧ Cs w w' v cs ∧ cellsF n.toNat (B.drop p) = some (cs, B.drop q))
    ∨ (e' = .returned (.tuple #[.slice none 0 0, .bool false]) ∧ (n < 0 ∨ 12000 < n ∨ e ≠ 0 ∨ cellsF n.toNat (B.drop p) = none)))
theorem RdrR.pairs {w w' : World} {g : Nat} {u : Value} {B : List Int} {p : Nat} {e : Int} {il io : Nat} {v : Value} {b : Bool} (h : RdrR w g u B p e) (hp : pair w il io v b) (hc : Chg w w' (fun k => k = il ∨ k = io)) : RdrR w' g u B p e :=
  ⟨h.blk.kept hc (fun hk => by
    rcases hk with rfl | rfl
    · have h1 := (h.blk.inj hp.1).1; revert h1; decide
    · have h1 := (h.blk.inj hp.2).1; revert h1; decide), h.own.kept hc (fun k hk hf => by
    rcases hf with rfl | rfl
    · exact h.own.ne hp.1 (by decide) hk
    · exact h.own.ne hp.2 (by decide) hk), h.byte, h.le, h.big⟩
theorem Cs.pairs {w wr w' : World} {l : List Ce} {x : Value} {il io : Nat} {v : Value} {b : Bool} (h : Cs w wr x l) (hp : pair wr il io v b) (hc : Chg wr w' (fun k => k = il ∨ k = io)) : Cs w w' x l :=
  ⟨h.1.kept hc (fun k hk hf => by
    rcases hf with rfl | rfl
    · exact h.1.ne hp.1 (by decide) hk
    · exact h.1.ne hp.2 (by decide) hk), h.2⟩
theorem pair.rd {w w' : World} {g : Nat} {u : Value} {B : List Int} {p : Nat} {e : Int} {il io : Nat} {v : Value} {b : Bool} (hp : pair w il io v b) (h : RdrR w g u B p e) (hc : Chg w w' (fun k => k = g)) : pair w' il io v b :=
  ⟨hp.1.rd h (by decide) hc, hp.2.rd h (by decide) hc⟩
set_option maxRecDepth 100000 in
set_option maxHeartbeats 2000000 in
theorem kcellsread_any (w : World) (g : Nat) (u : Value) (B : List Int) (p : Nat) (e : Int) (h : RdrR w g u B p e) (n : Int) (ht : Tab w) :
    Calls Tryz.prog 55 #[ptr g, .int .i64 n] w fun e' w' => RdCells w w' g u B p e n e' := by
  have HR := Lib.hid h
  have HT := Lib.hid ht
  clear h ht
  have hmf : ∀ (fn : Fn) (first cap : Array Value) (w : World), (Instr.makeFunc fn first cap).run Tryz.prog w = .ok (.func fn first cap) w := fun _ _ _ _ => rfl
  go_enter_defers Tryz.func55, Tryz.ntmps55
  go_upto_region 1 with (fail)
  obtain ⟨w1, hw⟩ : ∃ W, (w.alloc (.cells #[.slice none 0 0] 22)).alloc (.cells #[.bool false] 4) = W := ⟨_, rfl⟩
  have hc1 : Chg w w1 nob := by rw [← hw]; exact ((Chg.refl w nob).alloc _).alloc _
  have hba : Blk w1 w.heap.size 22 #[.slice none 0 0] := by rw [← hw]; exact (Blk.new w _ _).alloc _
  have hbd : Blk w1 (w.heap.size + 1) 4 #[.bool false] := by rw [← hw]; exact Blk.new2 w _ _ _
  rw [hw]
  clear hw
  obtain ⟨il, hil⟩ : ∃ i, w.heap.size = i := ⟨_, rfl⟩
  have HIL := Lib.hid hil
  rw [hil] at hba hbd ⊢
  clear hil
  obtain ⟨io, hio⟩ : ∃ i, il + 1 = i := ⟨_, rfl⟩
  have HIO := Lib.hid hio
  rw [hio] at hbd ⊢
  clear hio
  have HP : Hid (pair w1 il io (.slice none 0 0) false) := Lib.hid ⟨hba, hbd⟩
  have HC := Lib.hid hc1
  replace HR := Lib.hid (HR.out.kept hc1)
  clear hc1 hba hbd
  have sl := HP.out.1.cell 0
  have so := HP.out.2.cell 0
  simp only [List.getElem?_toArray, List.getElem?_cons_zero] at sl so
  have fl := HP.out.1.free 0
  have fo := HP.out.2.free 0
  have hne := HP.out.ne
  have hne2 := Ne.symm hne
  have HNW : Hid (w.heap.size ≤ il ∧ w.heap.size ≤ io) := Lib.hid (by have h1 := HIL.out; have h2 := HIO.out; omega)
  by_cases hin : 0 ≤ n ∧ n ≤ 12000
  · obtain ⟨n0, n1⟩ := hin
    obtain ⟨m, rfl⟩ : ∃ m : Nat, n = (m : Int) := ⟨n.toNat, by omega⟩
    have hc1 : ¬ ((m : Int) < 0) := by omega
    have hc2 : ¬ ((12000 : Int) < (m : Int)) := by omega
    have HKR := Lib.hid (kread_any w1 g u B p e HR.out m (by omega) (HT.out.kept HC.out))
    go_wp2_with fail
    go_at_call 80
    refine HKR.out.mono ?_
    rintro e' w2 ⟨hc, q, er, hr, ⟨h1, h2, v, cs, rfl, h3, h4⟩ | ⟨rfl, h3⟩⟩
    · have HP2 := Lib.hid (HP.out.rd HR.out hc)
      have HH := Lib.hid (And.intro (HC.out.mono (G := fun k => k = g) (fun _ _ h => h.elim) |>.trans hc (fun _ _ h => h)) (And.intro hr (And.intro h1 (And.intro h2 (And.intro h3 h4)))))
      obtain ⟨av, cv, rfl, _⟩ := h3.form
      clear hc hr h1 h2 h3 h4 HKR sl so fl fo
      have sl := HP2.out.1.cell 0
      have so := HP2.out.2.cell 0
      simp only [List.getElem?_toArray, List.getElem?_cons_zero] at sl so
      have fl := HP2.out.1.free 0
      have fo := HP2.out.2.free 0
      go_wp2
      refine leaves_cons (f := 78) (args := #[ptr il, ptr io]) (by simp) (by simp [go_sem]) ?_
      refine (kcat_ret _ il io).mono ?_
      rintro e' u' w6 ⟨rfl, rfl, rfl⟩
      have HP6 := HP2.out.set (.slice av cs.length cv) true
      have s6 := HP6.1.cell 0
      have o6 := HP6.2.cell 0
      simp only [List.getElem?_toArray, List.getElem?_cons_zero] at s6 o6
      have hcc : Chg w2 ((w2.setCell ⟨il, 0, none⟩ (.slice av cs.length cv)).setCell ⟨io, 0, none⟩ (.bool true)) (fun k => k = il ∨ k = io) := ((Chg.refl w2 (fun k => k = il ∨ k = io)).setCell (p := ⟨il, 0, none⟩) (.inl (.inl rfl)) _).setCell (p := ⟨io, 0, none⟩) (.inl (.inr rfl)) _
      have hH := HH.out
      refine ⟨.tuple #[.slice av cs.length cv, .bool true], by simp [results, Tryz.results55, go_sem, s6, o6], hH.1.trans hcc (fun i hi hk => by have h9 := HNW.out; rcases hk with e | e <;> (subst e; omega)), q, er, hH.2.1.pairs HP2.out hcc, .inl ⟨n0, n1, hH.2.2.1, hH.2.2.2.1.imp (fun h => h) (fun h => by omega), _, cs, rfl, ⟨(hH.2.2.2.2.1.pairs HP2.out hcc).1, fun k hk => Nat.le_trans HC.out.size (hH.2.2.2.2.1.2 k hk)⟩, by rw [Int.toNat_natCast]; exact hH.2.2.2.2.2⟩⟩
    · have HP2 := Lib.hid (HP.out.rd HR.out hc)
      have HH := Lib.hid (And.intro (HC.out.mono (G := fun k => k = g) (fun _ _ h => h.elim) |>.trans hc (fun _ _ h => h)) (And.intro hr h3))
      clear hc hr h3 HKR sl so fl fo
      go_wp2
      refine leaves_cons (f := 78) (args := #[ptr il, ptr io]) (by simp) (by simp [go_sem]) ?_
      refine (kcat_pan w2 il io _ _ HP2.out).mono ?_
      rintro e' u' w6 ⟨rfl, rfl, hp6, hcc⟩
      have s6 := hp6.1.cell 0
      have o6 := hp6.2.cell 0
      simp only [List.getElem?_toArray, List.getElem?_cons_zero] at s6 o6
      have hH := HH.out
      refine ⟨.tuple #[.slice none 0 0, .bool false], by simp [results, Tryz.results55, go_sem, s6, o6], hH.1.trans hcc (fun i hi hk => by have h9 := HNW.out; rcases hk with e | e <;> (subst e; omega)), q, er, hH.2.1.pairs HP2.out hcc, .inr ⟨rfl, .inr (.inr (hH.2.2.imp (fun h => h) (fun h => by rw [Int.toNat_natCast]; exact h)))⟩⟩
  · have hout : n < 0 ∨ (0 ≤ n ∧ 12000 < n) := by omega
    have hpost : n < 0 ∨ 12000 < n := by omega
    have HPO := Lib.hid hpost
    have hcc : Chg w1 ((w1.setCell ⟨il, 0, none⟩ (.slice none 0 0)).setCell ⟨io, 0, none⟩ (.bool false)) (fun k => k = il ∨ k = io) := ((Chg.refl w1 (fun k => k = il ∨ k = io)).setCell (p := ⟨il, 0, none⟩) (.inl (.inl rfl)) _).setCell (p := ⟨io, 0, none⟩) (.inl (.inr rfl)) _
    have HP6 := HP.out.set (.slice none 0 0) false
    have s6 := HP6.1.cell 0
    have o6 := HP6.2.cell 0
    simp only [List.getElem?_toArray, List.getElem?_cons_zero] at s6 o6
    have HZ := Lib.hid (And.intro hcc (And.intro s6 o6))
    clear hcc HP6 s6 o6 hpost
    rcases hout with h1 | ⟨h1, h2⟩
    all_goals (
      go_wp2
      have s6 := HZ.out.2.1
      have o6 := HZ.out.2.2
      refine ⟨.tuple #[.slice none 0 0, .bool false], by simp [results, Tryz.results55, go_sem, s6, o6], (HC.out.mono (G := fun k => k = g) (fun _ _ h => h.elim)).trans HZ.out.1 (fun i hi hk => by have h9 := HNW.out; rcases hk with e | e <;> (subst e; omega)), p, e, HR.out.pairs HP.out HZ.out.1, .inr ⟨rfl, HPO.out.imp (fun h => h) (fun h => .inl h)⟩⟩)
end Go.Proofs.YtmbdpcamhkdkmaaGreatDoor

namespace Go.Proofs.YtmbdpcamhkdkmaaGreatDoor
open Go.RowKit
set_option linter.unusedVariables false
set_option linter.unusedSimpArgs false

set_option maxRecDepth 100000 in
theorem bequal_any (w : World) (va vb : Value) (xs ys : List Int) (ha : Rd w 1 va xs.length (bytesV xs)) (hb : Rd w 1 vb ys.length (bytesV ys)) (hx : ∀ x ∈ xs, 0 ≤ x ∧ x ≤ 255) (hy : ∀ x ∈ ys, 0 ≤ x ∧ x ≤ 255) :
    Calls Tryz.prog 28 #[va, vb] w fun e w' => e = .returned (.bool (decide (xs = ys))) ∧ w' = w := by
  have h1 := rd_string w va xs ha
  have h2 := rd_string w vb ys hb
  have hd : Hid (((strOfNums xs).toList == (strOfNums ys).toList) = decide (xs = ys)) := Lib.hid (by
    rw [Bool.eq_iff_iff]
    simp only [beq_iff_eq, decide_eq_true_eq]
    refine ⟨fun h => strOfNums_inj hx hy (toList_inj h), fun h => by rw [h]⟩)
  clear ha hb hx hy
  go_enter Tryz.func28, Tryz.ntmps28
  go_wp2
  go_ret
  refine ⟨?_, rfl⟩
  show Ending.returned (Value.bool _) = _
  rw [hd.out]
section
variable {w : World} {va vb : Value} {xs ys : List Int}
theorem bequal_by (ha : By w va xs) (hb : By w vb ys) : Calls Tryz.prog 28 #[va, vb] w fun e w' => e = .returned (.bool (decide (xs = ys))) ∧ w = w' := (bequal_any w va vb xs ys ha.rd hb.rd ha.byte hb.byte).mono fun e w' ⟨h1, h2⟩ => ⟨h1, h2.symm⟩
theorem bytes_by (ha : By w va xs) (hb : By w vb ys) : Calls Tryz.prog 10 #[va, vb] w fun e w' => e = .returned (.bool (decide (xs = ys))) ∧ w = w' := (bytes_eq w va vb xs ys ha.rd hb.rd ha.byte hb.byte).mono fun e w' ⟨h1, h2⟩ => ⟨h1, h2.symm⟩
end
end Go.Proofs.YtmbdpcamhkdkmaaGreatDoor
