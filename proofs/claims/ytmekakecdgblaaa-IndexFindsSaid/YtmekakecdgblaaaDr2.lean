
/-
  The document's reader (tikref2): Raw, Text.
-/
import Derived.Test.YtmekakecdgblaaaDr
import Derived.Test.YtmekakecdgblaaaText
namespace Go.Proofs.Ytmekakecdgblaaa
open Go.RowKit
set_option linter.unusedVariables false
set_option linter.unusedSimpArgs false

attribute [local go_sem ↓] run_cutb_lh
/-- What a reading of bytes comes to. -/
structure RdRawD (w w' : World) (g : Nat) (u : Value) (B : List Int) (p : Nat) (e : Int) (n : Nat) (v : Value) (L : List Int) (q : Nat) (e' : Int) : Prop where
  r : RdD w' g u B q e'
  c : Chg w w' (fun k => k = g)
  v : Raws w w' v L
  s : (e' = 0 ∧ e = 0 ∧ p + n ≤ B.length ∧ q = p + n ∧ L = (B.drop p).take n) ∨ (e' ≠ 0 ∧ L = [] ∧ q = p ∧ (e ≠ 0 ∨ (B.length < p + n ∧ e' = 3)))
set_option maxRecDepth 100000 in
set_option maxHeartbeats 2000000 in
theorem draw_any (w : World) (g : Nat) (u : Value) (B : List Int) (p : Nat) (e : Int) (h : RdD w g u B p e) (n : Nat) (hn : n ≤ 1000000) :
    Calls Try.prog 27 #[ptr g, .int .i64 n] w fun e' w' => ∃ v L q er, e' = .returned v ∧ RdRawD w w' g u B p e n v L q er := by
  have HR := Lib.hid h
  obtain ⟨a, c, rfl, hcap⟩ := h.by_.form
  have hle := h.le
  have hbig := h.big
  clear h
  have q0 := HR.out.blk.cell 0
  have q1 := HR.out.blk.cell 1
  have q2 := HR.out.blk.cell 2
  simp only [List.getElem?_toArray, List.getElem?_cons_zero, List.getElem?_cons_succ] at q0 q1 q2
  have f1 := HR.out.blk.free 1
  have f2 := HR.out.blk.free 2
  by_cases he : e = 0
  · subst he
    have hw1 : IntKind.i64.wrap ((B.length : Int) - (p : Int)) = (B.length : Int) - (p : Int) := by simp only [IntKind.wrap, IntKind.bits, IntKind.signed]; simp; omega
    go_enter Try.func27, Try.ntmps27
    go_upto_region 6 with (fail)
    have HC : Hid (Chg w w (fun k => k = g)) := Lib.hid (Chg.refl _ _)
    refine wp_one [4, 9] [] [] [0, 1, 2, 3, 4, 5, 6, 7, 8, 9, 10, 11, 12] rfl (by kernel_rfl) (fun _ _ _ _ _ h => h) ?_; simp only [List.map_cons, List.map_nil, List.getElem?_toArray, List.getElem?_cons_zero, List.getElem?_cons_succ]
    obtain ⟨w1, hw⟩ : ∃ W, World.drew w = W := ⟨_, rfl⟩
    have hck : Chg w w1 nob := by rw [← hw]; exact (Chg.refl w nob).drew
    rw [hw]
    clear hw
    replace HR := Lib.hid (HR.out.kept hck)
    replace HC := Lib.hid (HC.out.trans hck (fun _ _ h => h.elim))
    clear hck
    clear q0 q1 q2 f1 f2
    have q0 := HR.out.blk.cell 0
    have q1 := HR.out.blk.cell 1
    have q2 := HR.out.blk.cell 2
    simp only [List.getElem?_toArray, List.getElem?_cons_zero, List.getElem?_cons_succ] at q0 q1 q2
    have f1 := HR.out.blk.free 1
    have f2 := HR.out.blk.free 2
    (repeat (first | (apply can0; (· rfl); (· rfl); (· (intro w'; first | (go_simp; with_reducible rfl) | (go_simp; done))); simp only [Act.put, List.setIfInBounds_toArray, List.set_cons_zero, List.set_cons_succ]) | (apply can1; (· rfl); (· rfl); (· (first | (go_simp; with_reducible rfl) | (go_simp; done))); simp only [Act.put, List.setIfInBounds_toArray, List.set_cons_zero, List.set_cons_succ]) | (apply canN; (· rfl); (· rfl); simp only [Act.put, List.setIfInBounds_toArray, List.set_cons_zero, List.set_cons_succ]) | (apply canN1; (· rfl); (· rfl); simp only [Act.put, List.setIfInBounds_toArray, List.set_cons_zero, List.set_cons_succ]) | (apply can0; (· rfl); (· (go_simp; done)); (· (intro w'; first | (go_simp; with_reducible rfl) | (go_simp; done))); simp only [Act.put, List.setIfInBounds_toArray, List.set_cons_zero, List.set_cons_succ]) | (apply can1; (· rfl); (· (go_simp; done)); (· (first | (go_simp; with_reducible rfl) | (go_simp; done))); simp only [Act.put, List.setIfInBounds_toArray, List.set_cons_zero, List.set_cons_succ]) | (apply canN; (· rfl); (· (go_simp; done)); simp only [Act.put, List.setIfInBounds_toArray, List.set_cons_zero, List.set_cons_succ]) | (apply canN1; (· rfl); (· (go_simp; done)); simp only [Act.put, List.setIfInBounds_toArray, List.set_cons_zero, List.set_cons_succ])))
    refine canE ?_
    by_cases hnl : B.length < p + n
    · have hni : (B.length : Int) - (p : Int) < (n : Int) := by omega
      go_wp2
      go_ret
      exact ⟨_, [], p, 3, rfl, HR.out.set2 _, HC.out.setCell (p := ⟨g, 2, none⟩) (.inl rfl) _, Raws.nil _ _, .inr ⟨by decide, rfl, rfl, .inr ⟨hnl, rfl⟩⟩⟩
    · have hni : ¬ ((B.length : Int) - (p : Int) < (n : Int)) := by omega
      obtain ⟨q, hq⟩ : ∃ q, p + n = q := ⟨_, rfl⟩
      have hw3 : IntKind.i64.wrap ((p : Int) + (n : Int)) = (q : Int) := by simp only [IntKind.wrap, IntKind.bits, IntKind.signed]; simp; omega
      have hw4 : IntKind.i64.wrap ((q : Int) - (n : Int)) = (p : Int) := by simp only [IntKind.wrap, IntKind.bits, IntKind.signed]; simp; omega
      go_upto_region 10 with (fail)
      obtain ⟨w2, hw⟩ : ∃ W, w1.setCell ⟨g, 1, none⟩ (.int .i64 q) = W := ⟨_, rfl⟩
      have HR2 : Hid (RdD w2 g (.slice a B.length c) B q 0) := Lib.hid (by rw [← hw]; exact HR.out.set1 q (by omega))
      replace HC : Hid (Chg w w2 (fun k => k = g)) := Lib.hid (by rw [← hw]; exact HC.out.setCell (p := ⟨g, 1, none⟩) (.inl rfl) _)
      rw [hw]
      clear hw HR
      have HR := HR2
      clear HR2
      refine wp_one [3, 7, 13] [15] [] [0, 1, 2, 3, 4, 5, 6, 7, 8, 9, 10, 11, 12, 13, 14, 15, 16] rfl (by kernel_rfl) (fun _ _ _ _ _ h => h) ?_; simp only [List.map_cons, List.map_nil, List.getElem?_toArray, List.getElem?_cons_zero, List.getElem?_cons_succ]
      obtain ⟨w3, hw⟩ : ∃ W, World.drew w2 = W := ⟨_, rfl⟩
      have hck : Chg w2 w3 nob := by rw [← hw]; exact (Chg.refl w2 nob).drew
      rw [hw]
      clear hw
      replace HR := Lib.hid (HR.out.kept hck)
      replace HC := Lib.hid (HC.out.trans hck (fun _ _ h => h.elim))
      clear hck
      clear q0 q1 q2 f1 f2
      have q0 := HR.out.blk.cell 0
      have q1 := HR.out.blk.cell 1
      have q2 := HR.out.blk.cell 2
      simp only [List.getElem?_toArray, List.getElem?_cons_zero, List.getElem?_cons_succ] at q0 q1 q2
      have f1 := HR.out.blk.free 1
      have f2 := HR.out.blk.free 2
      have hpq : (p : Int) ≤ (q : Int) := by omega
      have hqc : (q : Int) ≤ (c : Int) := by omega
      have hp0 : (0 : Int) ≤ (p : Int) := by omega
      (repeat (first | (apply can0; (· rfl); (· rfl); (· (intro w'; first | (go_simp; with_reducible rfl) | (go_simp; done))); simp only [Act.put, List.setIfInBounds_toArray, List.set_cons_zero, List.set_cons_succ]) | (apply can1; (· rfl); (· rfl); (· (first | (go_simp; with_reducible rfl) | (go_simp; done))); simp only [Act.put, List.setIfInBounds_toArray, List.set_cons_zero, List.set_cons_succ]) | (apply canN; (· rfl); (· rfl); simp only [Act.put, List.setIfInBounds_toArray, List.set_cons_zero, List.set_cons_succ]) | (apply canN1; (· rfl); (· rfl); simp only [Act.put, List.setIfInBounds_toArray, List.set_cons_zero, List.set_cons_succ]) | (apply can0; (· rfl); (· (go_simp; done)); (· (intro w'; first | (go_simp; with_reducible rfl) | (go_simp; done))); simp only [Act.put, List.setIfInBounds_toArray, List.set_cons_zero, List.set_cons_succ]) | (apply can1; (· rfl); (· (go_simp; done)); (· (first | (go_simp; with_reducible rfl) | (go_simp; done))); simp only [Act.put, List.setIfInBounds_toArray, List.set_cons_zero, List.set_cons_succ]) | (apply canN; (· rfl); (· (go_simp; done)); simp only [Act.put, List.setIfInBounds_toArray, List.set_cons_zero, List.set_cons_succ]) | (apply canN1; (· rfl); (· (go_simp; done)); simp only [Act.put, List.setIfInBounds_toArray, List.set_cons_zero, List.set_cons_succ])))
      refine canW rfl [] rfl (fun K hK => ?_)
      go_simp
      go_at_call 40
      have hm := HR.out.by_.mid (l := p) (m := q) (by omega) (by omega)
      have hml : ((B.take q).drop p).length = q - p := by simp; omega
      have hLe : (B.take q).drop p = (B.drop p).take n := by rw [List.drop_take, show q - p = n by omega]
      have HL := Lib.hid hLe
      have HQP := Lib.hid hq
      refine (copy_any w3 _ ((B.take q).drop p) hm.rd hm.nil (by omega)).mono ?_
      rintro e' w4 ⟨v4, rfl, ho, hc4, hf4⟩
      have HV : Hid (Raws w w4 v4 ((B.take q).drop p)) := Lib.hid ⟨ho, fun k hk => Nat.le_trans HC.out.size (hf4 k hk)⟩
      replace HR := Lib.hid (HR.out.kept hc4)
      replace HC := Lib.hid (HC.out.trans hc4 (fun _ _ h => h.elim))
      clear hm hml ho hc4 hf4 hLe hq
      (refine hK _ _ (fun u hu => by cases hu) ?_; clear hK K; try simp only [Act.put, List.setIfInBounds_toArray, List.set_cons_zero, List.set_cons_succ])
      (repeat (first | (apply can0; (· rfl); (· rfl); (· (intro w'; first | (go_simp; with_reducible rfl) | (go_simp; done))); simp only [Act.put, List.setIfInBounds_toArray, List.set_cons_zero, List.set_cons_succ]) | (apply can1; (· rfl); (· rfl); (· (first | (go_simp; with_reducible rfl) | (go_simp; done))); simp only [Act.put, List.setIfInBounds_toArray, List.set_cons_zero, List.set_cons_succ]) | (apply canN; (· rfl); (· rfl); simp only [Act.put, List.setIfInBounds_toArray, List.set_cons_zero, List.set_cons_succ]) | (apply canN1; (· rfl); (· rfl); simp only [Act.put, List.setIfInBounds_toArray, List.set_cons_zero, List.set_cons_succ]) | (apply can0; (· rfl); (· (go_simp; done)); (· (intro w'; first | (go_simp; with_reducible rfl) | (go_simp; done))); simp only [Act.put, List.setIfInBounds_toArray, List.set_cons_zero, List.set_cons_succ]) | (apply can1; (· rfl); (· (go_simp; done)); (· (first | (go_simp; with_reducible rfl) | (go_simp; done))); simp only [Act.put, List.setIfInBounds_toArray, List.set_cons_zero, List.set_cons_succ]) | (apply canN; (· rfl); (· (go_simp; done)); simp only [Act.put, List.setIfInBounds_toArray, List.set_cons_zero, List.set_cons_succ]) | (apply canN1; (· rfl); (· (go_simp; done)); simp only [Act.put, List.setIfInBounds_toArray, List.set_cons_zero, List.set_cons_succ])))
      refine canE ?_
      go_wp2
      go_ret
      exact ⟨v4, rfl, _, q, 0, HR.out, HC.out, HV.out, .inl ⟨rfl, rfl, by have := HQP.out; have := HR.out.le; omega, HQP.out.symm, HL.out⟩⟩
  · have he' : (e != 0) = true := by simpa using he
    have HE := Lib.hid he
    clear he
    go_enter Try.func27, Try.ntmps27
    go_wp2
    go_ret
    exact ⟨_, [], p, e, rfl, HR.out, Chg.refl _ _, Raws.nil _ _, .inr ⟨HE.out, rfl, rfl, .inl HE.out⟩⟩
/-- What a reading of a text comes to. -/
structure RdTextD (w w' : World) (g : Nat) (u : Value) (B : List Int) (p : Nat) (e : Int) (most : Nat) (t : ByteArray) (q : Nat) (e' : Int) : Prop where
  r : RdD w' g u B q e'
  c : Chg w w' (fun k => k = g)
  s : (e' = 0 ∧ e = 0 ∧ textQ most (B.drop p) = some (t, B.drop q)) ∨ (e' ≠ 0 ∧ t = ⟨#[]⟩ ∧ (e ≠ 0 ∨ textQ most (B.drop p) = none))
theorem str_none : strOfNums [] = ⟨#[]⟩ := rfl
theorem RdNumD.le {w w' : World} {g p : Nat} {u : Value} {B : List Int} {e : Int} {most n q : Nat} {e' : Int} (hr : RdNumD w w' g u B p e most n q e') : n ≤ most := by
  rcases hr.s with ⟨_, _, h3⟩ | ⟨_, h2, _⟩
  · obtain ⟨_, h, _⟩ := numM_back (fun x hx => hr.r.by_.byte x (List.mem_of_mem_drop hx)) h3
    exact h
  · omega
end Go.Proofs.Ytmekakecdgblaaa
