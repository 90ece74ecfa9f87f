
/-
  The program's reader: New, upTo, raw; what was given up is caught.
-/
import Derived.Test.YtmekakecdgblaaaRdr
namespace Go.Proofs.Ytmekakecdgblaaa
open Go.RowKit
set_option linter.unusedVariables false
set_option linter.unusedSimpArgs false

set_option maxRecDepth 100000 in
theorem newrdr_any (w : World) (va : Value) (B : List Int) (hb : By w va B) (hl : B.length ≤ 140737488351232) :
    Calls Try.prog 21 #[va] w fun e' w' => ∃ g u, e' = .returned (ptr g) ∧ RdrR w' g u B 0 0 ∧ Chg w w' nob ∧ w.heap.size ≤ g ∧ ∀ k, blkOf u k → w.heap.size ≤ k := by
  have HB := Lib.hid hb
  clear hb
  go_enter Try.func21, Try.ntmps21
  go_wp2_with fail
  go_at_call 33
  refine (clone_big w va B HB.out.rd HB.out.nil hl).mono ?_
  rintro e w2 ⟨u, rfl, hb⟩
  have HU := Lib.hid hb
  clear hb
  obtain ⟨au, cu, rfl, _⟩ := HU.out.1.form
  go_wp2
  go_ret
  refine ⟨_, _, rfl, ⟨Blk.new w2 _ _, HU.out.1.kept ((Chg.refl w2 nob).alloc _) (fun _ _ => id), HB.out.byte, Nat.zero_le _, hl⟩, HU.out.2.1.alloc _, HU.out.2.1.size, HU.out.2.2⟩
/-- What comes of a number up to a greatest one: why not, the number, how many bytes. -/
def upE (most : Nat) (l : List Int) : Int × Nat × Nat := if (numP l).1 ≠ 0 then ((numP l).1, 0, 0) else if most < (numP l).2.1 then (1, 0, 0) else numP l
set_option maxRecDepth 100000 in
theorem upto_any (w : World) (g : Nat) (u : Value) (B : List Int) (p : Nat) (e : Int) (h : RdrR w g u B p e) (most : Nat) (R : Int × Nat × Nat) (hR : upE most (B.drop p) = R) :
    Calls Try.prog 39 #[ptr g, .int .u64 most] w fun e' w' => Chg w w' (fun k => k = g) ∧ ∃ q, RdrR w' g u B q e ∧ ((R.1 = 0 ∧ e' = .returned (.int .u64 R.2.1) ∧ q = p + R.2.2) ∨ (R.1 ≠ 0 ∧ e' = stopE R.1)) := by
  obtain ⟨N, hN⟩ : ∃ N, numP (B.drop p) = N := ⟨_, rfl⟩
  have HNM := Lib.hid (num_any w g u B p e h N hN)
  unfold upE at hR
  rw [hN] at hR
  obtain ⟨er, n, k⟩ := N
  simp only at hR HNM
  have HR := Lib.hid hR
  clear h hN hR
  have HQ : Hid (∀ (e' : Ending) (w' : World), (Chg w w' (fun k => k = g) ∧ ∃ q, RdrR w' g u B q e ∧ ((R.1 = 0 ∧ e' = .returned (.int .u64 R.2.1) ∧ q = p + R.2.2) ∨ (R.1 ≠ 0 ∧ e' = stopE R.1))) → (Chg w w' (fun k => k = g) ∧ ∃ q, RdrR w' g u B q e ∧ ((R.1 = 0 ∧ e' = .returned (.int .u64 R.2.1) ∧ q = p + R.2.2) ∨ (R.1 ≠ 0 ∧ e' = stopE R.1)))) := Lib.hid (fun _ _ h => h)
  clear HQ
  go_enter Try.func39, Try.ntmps39
  go_wp2_with fail
  go_at_call 48
  refine HNM.out.mono ?_
  rintro e' w2 ⟨hc, q, hr, hcase⟩
  have HC := Lib.hid hc
  have HRR := Lib.hid hr
  clear hc hr HNM
  rcases hcase with ⟨h1, rfl, hq⟩ | ⟨h1, rfl⟩
  · have HQ := Lib.hid hq
    have hr := HR.out
    subst h1
    simp only [ne_eq, not_true_eq_false, if_false] at hr
    have HR2 := Lib.hid hr
    clear hq hr HR
    by_cases hm : most < n
    · have hmi : (most : Int) < (n : Int) := by omega
      go_wp2
      have hr := HR2.out
      rw [if_pos hm] at hr
      refine ⟨rfl, HC.out, _, HRR.out, .inr ⟨?_, ?_⟩⟩
      · rw [← hr]; decide
      · rw [← hr]
    · have hmi : ¬ (most : Int) < (n : Int) := by omega
      go_wp2
      go_ret
      have hr := HR2.out
      rw [if_neg hm] at hr
      refine ⟨HC.out, _, HRR.out, .inl ⟨by rw [← hr], by rw [← hr]; rfl, by rw [← hr]; exact HQ.out⟩⟩
  · have hr := HR.out
    simp only [ne_eq, h1, not_false_eq_true, if_true] at hr
    have HR2 := Lib.hid hr
    clear hr HR
    go_wp2
    have hr := HR2.out
    refine ⟨rfl, HC.out, _, HRR.out, .inr ⟨?_, ?_⟩⟩
    · rw [← hr]; exact h1
    · rw [← hr]
set_option maxRecDepth 100000 in
theorem caught_nil (w : World) (a : Addr) : Calls Try.prog 45 #[.nilIface, .pointer (some a)] w fun e' w' => e' = .returned (.tuple #[]) ∧ w = w' := by
  go_enter Try.func45, Try.ntmps45
  go_wp2
  go_end0
  exact ⟨rfl, rfl⟩
set_option maxRecDepth 100000 in
theorem caught_stop (w : World) (g : Nat) (u : Value) (B : List Int) (p : Nat) (e er : Int) (h : RdrR w g u B p e) : Calls Try.prog 45 #[.iface 68 (.agg #[.int .i64 er]), .pointer (some ⟨g, 2, none⟩)] w fun e' w' => e' = .returned (.tuple #[]) ∧ RdrR w' g u B p er ∧ Chg w w' (fun k => k = g) := by
  have HR := Lib.hid h
  clear h
  have q0 := HR.out.blk.cell 0
  have q1 := HR.out.blk.cell 1
  have q2 := HR.out.blk.cell 2
  simp only [List.getElem?_toArray, List.getElem?_cons_zero, List.getElem?_cons_succ] at q0 q1 q2
  have f1 := HR.out.blk.free 1
  have f2 := HR.out.blk.free 2
  have hta : ∀ w : World, (Instr.typeAssert (.iface 68 (.agg #[.int .i64 er])) 20 68 true).run Try.prog w = .ok (.tuple #[.agg #[.int .i64 er], .bool true]) w := fun _ => by rfl
  go_enter Try.func45, Try.ntmps45
  go_upto_region 7 with (fail)
  have hb := Blk.new w 68 #[.int .i64 er]
  have hn := hb.cell 0
  simp only [List.getElem?_toArray, List.getElem?_cons_zero] at hn
  obtain ⟨w1, hw⟩ : ∃ W, w.alloc (.cells #[.int .i64 er] 68) = W := ⟨_, rfl⟩
  have HR1 : Hid (RdrR w1 g u B p e) := Lib.hid (by rw [← hw]; exact HR.out.kept ((Chg.refl w nob).alloc _))
  have HC : Hid (Chg w w1 (fun k => k = g)) := Lib.hid (by rw [← hw]; exact (Chg.refl w _).alloc _)
  rw [hw] at hn ⊢
  clear hw hb HR q0 q1 q2 f1 f2 hta
  have q0 := HR1.out.blk.cell 0
  have q1 := HR1.out.blk.cell 1
  have q2 := HR1.out.blk.cell 2
  simp only [List.getElem?_toArray, List.getElem?_cons_zero, List.getElem?_cons_succ] at q0 q1 q2
  have f1 := HR1.out.blk.free 1
  have f2 := HR1.out.blk.free 2
  go_wp2
  go_end0
  exact ⟨rfl, HR1.out.set2 er, HC.out.setCell (p := ⟨g, 2, none⟩) (.inl rfl) _⟩
end Go.Proofs.Ytmekakecdgblaaa
