
/-
  The program's reader: Text, Raw.
-/
import Derived.Test.YtmekakecdgblaaaRdr3
import Derived.Test.YtmekakecdgblaaaNumM
import Derived.Test.YtmekakecdgblaaaBytes
namespace Go.Proofs.Ytmekakecdgblaaa
open Go.RowKit
set_option linter.unusedVariables false
set_option linter.unusedSimpArgs false

attribute [local go_sem ↓] run_min_two run_max_two
theorem upE_text {tm : Nat} {l : List Int} {n k : Nat} (h : upE tm l = (0, n, k)) : textQ tm l = if n ≤ (l.drop k).length then some (strOfNums ((l.drop k).take n), (l.drop k).drop n) else none := by
  unfold textQ
  rw [upE_some h, Option.bind_some]
theorem upE_notext {tm : Nat} {l : List Int} (h : (upE tm l).1 ≠ 0) : textQ tm l = none := by
  unfold textQ
  rw [upE_none h, Option.bind_none]
/-- What a reading of a text comes to. -/
structure RdText (w w' : World) (g : Nat) (u : Value) (B : List Int) (p : Nat) (e : Int) (most : Nat) (t : ByteArray) (q : Nat) (e' : Int) : Prop where
  r : RdrR w' g u B q e'
  c : Chg w w' (fun k => k = g)
  s : (e' = 0 ∧ e = 0 ∧ textQ most (B.drop p) = some (t, B.drop q)) ∨ (e' ≠ 0 ∧ t = ⟨#[]⟩ ∧ (e ≠ 0 ∨ textQ most (B.drop p) = none))
set_option maxRecDepth 100000 in
set_option maxHeartbeats 1500000 in
theorem raw1_any (w : World) (g jr jm : Nat) (u : Value) (B : List Int) (p : Nat) (h : RdrR w g u B p 0) (n : Nat) (hnb : n ≤ 1000000000) (hr : Blk w jr 46 #[ptr g]) (hm : Blk w jm 3 #[.int .i64 n]) :
    Calls Try.prog 35 #[ptr jm, ptr jr] w fun e' w' => Chg w w' (fun k => k = g) ∧ ∃ q, RdrR w' g u B q 0 ∧ ((p + n ≤ B.length ∧ q = p + n ∧ ∃ v, e' = .returned v ∧ Raws w w' v ((B.drop p).take n)) ∨ (B.length < p + n ∧ e' = stopE 3)) := by
  have HR := Lib.hid h
  have q0 := hr.cell 0
  have q1 := hm.cell 0
  simp only [List.getElem?_toArray, List.getElem?_cons_zero, List.getElem?_cons_succ] at q0 q1
  have h0 : ¬ (n : Int) < 0 := by omega
  have hwm : IntKind.u64.wrap (n : Int) = (n : Int) := wraps_u64 _ (by omega) (by omega)
  clear h hr hm
  go_enter Try.func35, Try.ntmps35
  go_wp2_with fail
  go_at_call 36
  refine (raw_any w g u B p 0 HR.out n).mono ?_
  rintro e' w2 ⟨hc, ⟨h1, hr, v, rfl, hv⟩ | ⟨h1, hr, rfl⟩⟩
  · have hlen : ((B.drop p).take n).length = n := by simp; omega
    obtain ⟨av, cv, hv', _⟩ := hv.1.form
    rw [hlen] at hv'
    subst hv'
    have HH := Lib.hid (And.intro hc (And.intro hr hv))
    clear hc hr hv hlen
    go_wp2
    go_ret
    exact ⟨HH.out.1, _, HH.out.2.1, .inl ⟨h1, rfl, _, rfl, HH.out.2.2⟩⟩
  · have HH := Lib.hid (And.intro hc hr)
    clear hc hr
    go_wp2
    exact ⟨rfl, HH.out.1, _, HH.out.2, .inr ⟨h1, rfl⟩⟩
/-- What a reading of bytes comes to. -/
structure RdRaw (w w' : World) (g : Nat) (u : Value) (B : List Int) (p : Nat) (e : Int) (n : Nat) (v : Value) (L : List Int) (q : Nat) (e' : Int) : Prop where
  r : RdrR w' g u B q e'
  c : Chg w w' (fun k => k = g)
  v : Raws w w' v L
  s : (e' = 0 ∧ e = 0 ∧ p + n ≤ B.length ∧ q = p + n ∧ L = (B.drop p).take n) ∨ (e' ≠ 0 ∧ L = [] ∧ (e ≠ 0 ∨ B.length < p + n))
theorem Raws.nil (w w' : World) : Raws w w' (.slice none 0 0) [] := ⟨World.ownsRow_nil _ _ _ _, fun k hk => by cases hk⟩
set_option maxRecDepth 100000 in
set_option maxHeartbeats 1500000 in
theorem rdraw_any (w : World) (g : Nat) (u : Value) (B : List Int) (p : Nat) (e : Int) (h : RdrR w g u B p e) (n : Nat) (hm : n ≤ 1000000000) :
    Calls Try.prog 22 #[ptr g, .int .i64 n] w fun e' w' => ∃ v L q er, e' = .returned v ∧ RdRaw w w' g u B p e n v L q er := by
  have HR := Lib.hid h
  clear h
  have hmf : ∀ (fn : Fn) (first cap : Array Value) (w : World), (Instr.makeFunc fn first cap).run Try.prog w = .ok (.func fn first cap) w := fun _ _ _ _ => rfl
  go_enter Try.func22, Try.ntmps22
  go_upto_region 1 with (fail)
  obtain ⟨w1, hw⟩ : ∃ W, (w.alloc (.cells #[ptr g] 46)).alloc (.cells #[.int .i64 n] 3) = W := ⟨_, rfl⟩
  have hc1 : Chg w w1 nob := by rw [← hw]; exact ((Chg.refl w nob).alloc _).alloc _
  have hba : Blk w1 w.heap.size 46 #[ptr g] := by rw [← hw]; exact (Blk.new w _ _).alloc _
  have hbd : Blk w1 (w.heap.size + 1) 3 #[.int .i64 n] := by rw [← hw]; exact Blk.new2 w _ _ _
  rw [hw]
  clear hw
  obtain ⟨ia, hia⟩ : ∃ i, w.heap.size = i := ⟨_, rfl⟩
  rw [hia] at hba hbd ⊢
  clear hia
  obtain ⟨id, hid⟩ : ∃ i, ia + 1 = i := ⟨_, rfl⟩
  rw [hid] at hbd ⊢
  clear hid
  have HC := Lib.hid hc1
  replace HR := Lib.hid (HR.out.kept hc1)
  have HA := Lib.hid hba
  have HD := Lib.hid hbd
  have q0 := hba.cell 0
  simp only [List.getElem?_toArray, List.getElem?_cons_zero, List.getElem?_cons_succ] at q0
  clear hc1 hba hbd
  go_wp2_with fail
  go_at_call 34
  refine (tries_raw w1 g id ia u B p e HR.out (fun v w' q => p + n ≤ B.length ∧ q = p + n ∧ Raws w1 w' v ((B.drop p).take n)) (fun er => B.length < p + n)
    (fun w3 hc hr => (raw1_any w3 g ia id u B p hr n hm (HA.out.kept hc (fun h => h)) (HD.out.kept hc (fun h => h))).mono ?_) ?_).mono ?_
  · rintro e' w' ⟨hc3, q, hr, hcase⟩
    refine ⟨hc3, q, hr, ?_⟩
    rcases hcase with ⟨h1, h2, v, rfl, h3⟩ | ⟨h1, h2⟩
    · obtain ⟨a, c, rfl, _⟩ := h3.1.form
      exact .inl ⟨_, _, _, rfl, h1, h2, h3.1, fun k hk => Nat.le_trans hc.size (h3.2 k hk)⟩
    · exact .inr ⟨3, by decide, h2, h1⟩
  · rintro v w' w'' q k cs F ⟨h1, h2, h3⟩ hb hc hF
    exact ⟨h1, h2, h3.1.apart hc (fun i hi => by rw [hF i hi]; exact ⟨_, _, hb, by decide⟩), h3.2⟩
  · rintro e' w' ⟨hc, hcase⟩
    have hc2 : Chg w w' (fun k => k = g) := (HC.out.mono (G := fun k => k = g) (fun _ _ h => h.elim)).trans hc (fun _ _ h => h)
    rcases hcase with ⟨h1, rfl, hr⟩ | ⟨h1, ⟨a, m, c, q, rfl, hr, h2, h3, h4⟩ | ⟨er, h2, h3, rfl, hr⟩⟩
    · have HF := Lib.hid (show RdRaw w w' g u B p e n (.slice none 0 0) [] p e from ⟨hr, hc2, Raws.nil _ _, .inr ⟨h1, rfl, .inl h1⟩⟩)
      clear hc hc2 hr h1
      go_wp2
      go_ret
      exact ⟨_, _, _, _, rfl, HF.out⟩
    · have HF := Lib.hid (show RdRaw w w' g u B p e n (.slice a m c) ((B.drop p).take n) q 0 from ⟨hr, hc2, ⟨h4.1, fun k hk => Nat.le_trans HC.out.size (h4.2 k hk)⟩, .inl ⟨rfl, h1, h2, h3, rfl⟩⟩)
      clear hc hc2 hr h1 h2 h3 h4
      go_wp2
      go_ret
      exact ⟨_, _, _, _, rfl, HF.out⟩
    · have HF := Lib.hid (show RdRaw w w' g u B p e n (.slice none 0 0) [] p er from ⟨hr, hc2, Raws.nil _ _, .inr ⟨h2, rfl, .inr h3⟩⟩)
      clear hc hc2 hr h1 h2 h3
      go_wp2
      go_ret
      exact ⟨_, _, _, _, rfl, HF.out⟩
theorem RdNum.le {w w' : World} {g p : Nat} {u : Value} {B : List Int} {e : Int} {most n q : Nat} {e' : Int} (hr : RdNum w w' g u B p e most n q e') : n ≤ most := by
  rcases hr.s with ⟨_, _, h3⟩ | ⟨_, h2, _⟩
  · obtain ⟨_, h, _⟩ := numM_back (fun x hx => hr.r.byte x (List.mem_of_mem_drop hx)) h3
    exact h
  · omega
end Go.Proofs.Ytmekakecdgblaaa
