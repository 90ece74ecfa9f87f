
/-
  The program's reader: Num, Raw, Text.
-/
import Derived.Test.YtmekakecdgblaaaNum
import Derived.Test.YtmekakecdgblaaaNumM
namespace Go.Proofs.Ytmekakecdgblaaa
open Go.RowKit
set_option linter.unusedVariables false
set_option linter.unusedSimpArgs false

set_option maxRecDepth 100000 in
theorem run_cutb_lh (a : Option Addr) (len cap : Nat) (k k' : IntKind) (l h : Int) (w : World) (h0 : 0 ≤ l) (h1 : l ≤ h) (h2 : h ≤ cap) :
    (Instr.slice 23 (.slice a len cap) (some (.int k l)) (some (.int k' h)) none).run Try.prog w = .ok (.slice (addS a cap l.toNat) (h.toNat - l.toNat) (cap - l.toNat)) w := by
  rw [run_slice_lh w 23 a len cap u_bytes k k' l h h0 h1 h2]
  have : (sizeOf (Try.prog.elem 23)).run Try.prog w = .ok 1 w := rfl
  rw [this]
  simp [Result.andThen, sliced, addS]
attribute [local go_sem ↓] run_cutb_lh
/-- What is read of bytes: so many, if they are there. -/
def Raws (w w' : World) (v : Value) (L : List Int) : Prop := Own w' 5 1 v L.length (bytesV L) ∧ ∀ k, blkOf v k → w.heap.size ≤ k
set_option maxRecDepth 100000 in
set_option maxHeartbeats 1500000 in
theorem raw_any (w : World) (g : Nat) (u : Value) (B : List Int) (p : Nat) (e : Int) (h : RdrR w g u B p e) (n : Nat) :
    Calls Try.prog 36 #[ptr g, .int .u64 n] w fun e' w' => Chg w w' (fun k => k = g) ∧ ((p + n ≤ B.length ∧ RdrR w' g u B (p + n) e ∧ ∃ v, e' = .returned v ∧ Raws w w' v ((B.drop p).take n)) ∨ (B.length < p + n ∧ RdrR w' g u B p e ∧ e' = stopE 3)) := by
  obtain ⟨a, c, rfl, hcap, _⟩ := h.own.form
  have HR := Lib.hid h
  have h1 := h.le
  have h2 := h.big
  have hw1 : IntKind.u64.wrap ((B.length : Int) - (p : Int)) = (B.length : Int) - (p : Int) := wraps_u64 _ (by omega) (by omega)
  clear h
  go_enter Try.func36, Try.ntmps36
  go_wp2_with fail
  go_at_call 46
  refine (left_any w g _ B p e HR.out).mono ?_
  rintro e' w1 ⟨rfl, hc⟩
  have HC := Lib.hid hc
  replace HR := Lib.hid (HR.out.kept hc)
  clear hc
  have q0 := HR.out.blk.cell 0
  have q1 := HR.out.blk.cell 1
  have q2 := HR.out.blk.cell 2
  simp only [List.getElem?_toArray, List.getElem?_cons_zero, List.getElem?_cons_succ] at q0 q1 q2
  have f1 := HR.out.blk.free 1
  have f2 := HR.out.blk.free 2
  by_cases hn : B.length < p + n
  · have hni : (B.length : Int) - (p : Int) < (n : Int) := by omega
    go_wp2
    exact ⟨rfl, HC.out.mono (fun _ _ h => h.elim), .inr ⟨hn, HR.out, rfl⟩⟩
  · have hni : ¬ ((B.length : Int) - (p : Int) < (n : Int)) := by omega
    have hw2 : IntKind.i64.wrap (n : Int) = (n : Int) := by simp only [IntKind.wrap, IntKind.bits, IntKind.signed]; simp; omega
    obtain ⟨q, hq⟩ : ∃ q, p + n = q := ⟨_, rfl⟩
    have hw3 : IntKind.i64.wrap ((p : Int) + (n : Int)) = (q : Int) := by simp only [IntKind.wrap, IntKind.bits, IntKind.signed]; simp; omega
    have hw4 : IntKind.i64.wrap ((q : Int) - (n : Int)) = (p : Int) := by simp only [IntKind.wrap, IntKind.bits, IntKind.signed]; simp; omega
    go_upto_region 4 with (fail)
    obtain ⟨w2, hw⟩ : ∃ W, w1.setCell ⟨g, 1, none⟩ (.int .i64 q) = W := ⟨_, rfl⟩
    have HR2 : Hid (RdrR w2 g (.slice a B.length c) B q e) := Lib.hid (by rw [← hw]; exact HR.out.set1 q (by omega))
    have HC2 : Hid (Chg w w2 (fun k => k = g)) := Lib.hid (by rw [← hw]; exact (HC.out.mono (G := fun k => k = g) (fun _ _ h => h.elim)).setCell (p := ⟨g, 1, none⟩) (.inl rfl) _)
    rw [hw]
    clear hw HR HC q0 q1 q2 f1 f2
    refine wp_one [3, 7, 14] [16] [] [0, 1, 2, 3, 4, 5, 6, 7, 8, 9, 10, 11, 12, 13, 14, 15, 16, 17] rfl (by kernel_rfl) (fun _ _ _ _ _ h => h) ?_; simp only [List.map_cons, List.map_nil, List.getElem?_toArray, List.getElem?_cons_zero, List.getElem?_cons_succ]
    obtain ⟨wd, hwd⟩ : ∃ W, World.drew w2 = W := ⟨_, rfl⟩
    have hcd : Chg w2 wd nob := by rw [← hwd]; exact (Chg.refl w2 nob).drew
    rw [hwd]
    replace HR2 := Lib.hid (HR2.out.kept hcd)
    replace HC2 := Lib.hid (HC2.out.trans hcd (fun _ _ h => h.elim))
    clear hwd hcd
    have q0 := HR2.out.blk.cell 0
    have q1 := HR2.out.blk.cell 1
    have q2 := HR2.out.blk.cell 2
    simp only [List.getElem?_toArray, List.getElem?_cons_zero, List.getElem?_cons_succ] at q0 q1 q2
    have f1 := HR2.out.blk.free 1
    have f2 := HR2.out.blk.free 2
    have hp0 : (0 : Int) ≤ (p : Int) := by omega
    have hpq : (p : Int) ≤ (q : Int) := by omega
    have hqc : (q : Int) ≤ (c : Int) := by omega
    (repeat (first | (apply can0; (· rfl); (· rfl); (· (intro w'; first | (go_simp; with_reducible rfl) | (go_simp; done))); simp only [Act.put, List.setIfInBounds_toArray, List.set_cons_zero, List.set_cons_succ]) | (apply can1; (· rfl); (· rfl); (· (first | (go_simp; with_reducible rfl) | (go_simp; done))); simp only [Act.put, List.setIfInBounds_toArray, List.set_cons_zero, List.set_cons_succ]) | (apply canN; (· rfl); (· rfl); simp only [Act.put, List.setIfInBounds_toArray, List.set_cons_zero, List.set_cons_succ]) | (apply canN1; (· rfl); (· rfl); simp only [Act.put, List.setIfInBounds_toArray, List.set_cons_zero, List.set_cons_succ]) | (apply can0; (· rfl); (· (go_simp; done)); (· (intro w'; first | (go_simp; with_reducible rfl) | (go_simp; done))); simp only [Act.put, List.setIfInBounds_toArray, List.set_cons_zero, List.set_cons_succ]) | (apply can1; (· rfl); (· (go_simp; done)); (· (first | (go_simp; with_reducible rfl) | (go_simp; done))); simp only [Act.put, List.setIfInBounds_toArray, List.set_cons_zero, List.set_cons_succ]) | (apply canN; (· rfl); (· (go_simp; done)); simp only [Act.put, List.setIfInBounds_toArray, List.set_cons_zero, List.set_cons_succ]) | (apply canN1; (· rfl); (· (go_simp; done)); simp only [Act.put, List.setIfInBounds_toArray, List.set_cons_zero, List.set_cons_succ])))
    refine canW rfl [] rfl (fun K hK => ?_)
    go_simp
    go_at_call 33
    have hby : By wd (.slice (addS a c p) (q - p) (c - p)) ((B.take q).drop p) := HR2.out.by.mid (by omega) (by omega)
    have hlen : ((B.take q).drop p).length = q - p := by simp; omega
    have HBY := Lib.hid hby
    refine (clone_big wd (.slice (addS a c p) (q - p) (c - p)) _ hby.rd hby.nil (by rw [hlen]; omega)).mono ?_
    clear hby
    rintro e' w3 ⟨v, rfl, hb⟩
    have HB := Lib.hid hb
    clear hb
    (refine hK _ _ (fun u hu => by cases hu) ?_; clear hK K; try simp only [Act.put, List.setIfInBounds_toArray, List.set_cons_zero, List.set_cons_succ])
    (repeat (first | (apply can0; (· rfl); (· rfl); (· (intro w'; first | (go_simp; with_reducible rfl) | (go_simp; done))); simp only [Act.put, List.setIfInBounds_toArray, List.set_cons_zero, List.set_cons_succ]) | (apply can1; (· rfl); (· rfl); (· (first | (go_simp; with_reducible rfl) | (go_simp; done))); simp only [Act.put, List.setIfInBounds_toArray, List.set_cons_zero, List.set_cons_succ]) | (apply canN; (· rfl); (· rfl); simp only [Act.put, List.setIfInBounds_toArray, List.set_cons_zero, List.set_cons_succ]) | (apply canN1; (· rfl); (· rfl); simp only [Act.put, List.setIfInBounds_toArray, List.set_cons_zero, List.set_cons_succ]) | (apply can0; (· rfl); (· (go_simp; done)); (· (intro w'; first | (go_simp; with_reducible rfl) | (go_simp; done))); simp only [Act.put, List.setIfInBounds_toArray, List.set_cons_zero, List.set_cons_succ]) | (apply can1; (· rfl); (· (go_simp; done)); (· (first | (go_simp; with_reducible rfl) | (go_simp; done))); simp only [Act.put, List.setIfInBounds_toArray, List.set_cons_zero, List.set_cons_succ]) | (apply canN; (· rfl); (· (go_simp; done)); simp only [Act.put, List.setIfInBounds_toArray, List.set_cons_zero, List.set_cons_succ]) | (apply canN1; (· rfl); (· (go_simp; done)); simp only [Act.put, List.setIfInBounds_toArray, List.set_cons_zero, List.set_cons_succ])))
    refine canE ?_
    go_wp2
    go_ret
    have hL : (B.drop p).take n = (B.take q).drop p := by rw [List.drop_take, show q - p = n by omega]
    rw [hL]
    subst hq
    exact ⟨HC2.out.trans HB.out.2.1 (fun _ _ h => h.elim), .inl ⟨by omega, HR2.out.kept HB.out.2.1, v, rfl, HB.out.1, fun k hk => Nat.le_trans HC2.out.size (HB.out.2.2 k hk)⟩⟩
/-- What a reading of a number comes to. -/
structure RdNum (w w' : World) (g : Nat) (u : Value) (B : List Int) (p : Nat) (e : Int) (most : Nat) (n : Nat) (q : Nat) (e' : Int) : Prop where
  r : RdrR w' g u B q e'
  c : Chg w w' (fun k => k = g)
  s : (e' = 0 ∧ e = 0 ∧ numM most (B.drop p) = some (n, B.drop q)) ∨ (e' ≠ 0 ∧ n = 0 ∧ (e ≠ 0 ∨ numM most (B.drop p) = none))
theorem upE_some {most : Nat} {l : List Int} {n k : Nat} (h : upE most l = (0, n, k)) : numM most l = some (n, l.drop k) := by
  unfold upE at h
  split at h
  · rename_i h1
    simp only [Prod.mk.injEq] at h
    exact absurd h.1 h1
  · split at h
    · simp at h
    · rename_i h1 h2
      unfold numM
      rw [h]
      rw [h] at h2
      exact if_pos ⟨rfl, by simpa using h2⟩
theorem upE_none {most : Nat} {l : List Int} (h : (upE most l).1 ≠ 0) : numM most l = none := by
  unfold upE at h
  unfold numM
  split at h
  · rename_i h1
    exact if_neg (fun h2 => h1 h2.1)
  · split at h
    · rename_i h1 h2
      exact if_neg (fun h3 => absurd h3.2 (by omega))
    · rename_i h1 h2
      exact absurd h h1
set_option maxRecDepth 100000 in
set_option maxHeartbeats 1500000 in
theorem rdnum_any (w : World) (g : Nat) (u : Value) (B : List Int) (p : Nat) (e : Int) (h : RdrR w g u B p e) (most : Nat) :
    Calls Try.prog 23 #[ptr g, .int .u64 most] w fun e' w' => ∃ n q er, e' = .returned (.int .u64 (n : Nat)) ∧ RdNum w w' g u B p e most n q er := by
  have HR := Lib.hid h
  clear h
  have hmf : ∀ (fn : Fn) (first cap : Array Value) (w : World), (Instr.makeFunc fn first cap).run Try.prog w = .ok (.func fn first cap) w := fun _ _ _ _ => rfl
  go_enter Try.func23, Try.ntmps23
  go_upto_region 1 with (fail)
  obtain ⟨w1, hw⟩ : ∃ W, (w.alloc (.cells #[ptr g] 46)).alloc (.cells #[.int .u64 most] 24) = W := ⟨_, rfl⟩
  have hc1 : Chg w w1 nob := by rw [← hw]; exact ((Chg.refl w nob).alloc _).alloc _
  have hba : Blk w1 w.heap.size 46 #[ptr g] := by rw [← hw]; exact (Blk.new w _ _).alloc _
  have hbd : Blk w1 (w.heap.size + 1) 24 #[.int .u64 most] := by rw [← hw]; exact Blk.new2 w _ _ _
  rw [hw]
  clear hw
  obtain ⟨ia, hia⟩ : ∃ i, w.heap.size = i := ⟨_, rfl⟩
  rw [hia] at hba hbd ⊢
  clear hia
  obtain ⟨id, hid⟩ : ∃ i, ia + 1 = i := ⟨_, rfl⟩
  rw [hid] at hbd ⊢
  clear hid
  have HC := Lib.hid hc1
  replace HR := Lib.hid (HR.out.kept hc1)
  have HA := Lib.hid hba
  have HD := Lib.hid hbd
  have q0 := hba.cell 0
  simp only [List.getElem?_toArray, List.getElem?_cons_zero, List.getElem?_cons_succ] at q0
  clear hc1 hba hbd
  obtain ⟨R, hR⟩ : ∃ R, upE most (B.drop p) = R := ⟨_, rfl⟩
  have HE := Lib.hid hR
  clear hR
  go_wp2_with fail
  go_at_call 37
  refine (tries_num w1 g ia id u B p e HR.out (fun v _ q => v = .int .u64 R.2.1 ∧ q = p + R.2.2 ∧ R.1 = 0) (fun er => er = R.1)
    (fun w3 hc hr => (num1_any w3 g ia id u B p 0 hr most (HA.out.kept hc (fun h => h)) (HD.out.kept hc (fun h => h)) R HE.out).mono ?_) (fun v w' w'' q k cs F h _ _ _ => h)).mono ?_
  · rintro e' w' ⟨hc, q, hr, hcase⟩
    refine ⟨hc, q, hr, ?_⟩
    rcases hcase with ⟨h1, h2, h3⟩ | ⟨h1, h2⟩
    · exact .inl ⟨R.2.1, h2, rfl, h3, h1⟩
    · exact .inr ⟨R.1, h1, h2, rfl⟩
  · rintro e' w' ⟨hc, hcase⟩
    have hc2 : Chg w w' (fun k => k = g) := (HC.out.mono (G := fun k => k = g) (fun _ _ h => h.elim)).trans hc (fun _ _ h => h)
    have hE := HE.out
    rcases hcase with ⟨h1, rfl, hr⟩ | ⟨h1, ⟨n, q, rfl, hr, h2, h3, h4⟩ | ⟨er, h2, h3, rfl, hr⟩⟩
    · have HF := Lib.hid (show RdNum w w' g u B p e most 0 p e from ⟨hr, hc2, .inr ⟨h1, rfl, .inl h1⟩⟩)
      clear hc hc2 hr h1 hE
      go_wp2
      go_ret
      exact ⟨0, _, _, rfl, HF.out⟩
    · obtain rfl : n = R.2.1 := by injection h2 with _ h; omega
      have HF := Lib.hid (show RdNum w w' g u B p e most R.2.1 q 0 from ⟨hr, hc2, .inl ⟨rfl, h1, by rw [h3, ← List.drop_drop]; exact upE_some (by rw [hE, ← h4])⟩⟩)
      clear hc hc2 hr h1 hE h2 h3 h4
      go_wp2
      go_ret
      exact ⟨_, _, _, rfl, HF.out⟩
    · have HF := Lib.hid (show RdNum w w' g u B p e most 0 p er from ⟨hr, hc2, .inr ⟨h2, rfl, .inr (upE_none (by rw [hE, ← h3]; exact h2))⟩⟩)
      clear hc hc2 hr h1 hE h2 h3
      go_wp2
      go_ret
      exact ⟨0, _, _, rfl, HF.out⟩
end Go.Proofs.Ytmekakecdgblaaa
