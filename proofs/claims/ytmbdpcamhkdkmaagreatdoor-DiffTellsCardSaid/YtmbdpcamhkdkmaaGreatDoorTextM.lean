/-
  The program's reader: Text, Raw.
-/
import Derived.Test.YtmbdpcamhkdkmaaGreatDoorMg14
import Derived.Test.YtmbdpcamhkdkmaaGreatDoorDecM
import Derived.Test.YtmbdpcamhkdkmaaGreatDoorMg5
namespace Go.Proofs.YtmbdpcamhkdkmaaGreatDoor
open Go.RowKit
set_option linter.unusedVariables false
set_option linter.unusedSimpArgs false

attribute [local go_sem ↓] run_min_two run_max_two
theorem upE_text {tm : Nat} {l : List Int} {n k : Nat} (h : upE tm l = (0, n, k)) : textQ tm l = if n ≤ (l.drop k).length then some (strOfNums ((l.drop k).take n), (l.drop k).drop n) else none := by
  unfold textQ
  rw [upE_some h, Option.bind_some]
theorem upE_notext {tm : Nat} {l : List Int} (h : (upE tm l).1 ≠ 0) : textQ tm l = none := by
  unfold textQ
  rw [upE_none h, Option.bind_none]
set_option maxRecDepth 100000 in
set_option maxHeartbeats 1500000 in
theorem text1_any (w : World) (g jr jm : Nat) (u : Value) (B : List Int) (p : Nat) (h : RdrR w g u B p 0) (most : Nat) (hmb : most ≤ 1000000) (hr : Blk w jr 49 #[ptr g]) (hm : Blk w jm 3 #[.int .i64 most]) :
    Calls Tryz.prog 77 #[ptr jr, ptr jm] w fun e' w' => Chg w w' (fun k => k = g) ∧ ∃ q, RdrR w' g u B q 0 ∧ ((∃ s, e' = .returned (.string s) ∧ textQ most (B.drop p) = some (s, B.drop q)) ∨ ∃ er, er ≠ 0 ∧ e' = stopE er ∧ textQ most (B.drop p) = none) := by
  have HR := Lib.hid h
  have HJ := Lib.hid hr
  have HM := Lib.hid hm
  have hmx : mxI (most : Int) 0 = (most : Int) := mxI_ge (by omega)
  have hwm : IntKind.u64.wrap (most : Int) = (most : Int) := wraps_u64 _ (by omega) (by omega)
  clear h hr hm
  go_enter Tryz.func77, Tryz.ntmps77
  go_wp2_with fail
  refine wp_one [0, 1, 2] [5, 6, 7] [(5, [0])] [0, 1, 2, 3, 4, 5, 6, 7, 8] rfl (by kernel_rfl) (fun _ _ _ _ _ h => h) ?_; simp only [List.map_cons, List.map_nil, List.getElem?_toArray, List.getElem?_cons_zero, List.getElem?_cons_succ]
  obtain ⟨wd, hwd⟩ : ∃ W, World.drew w = W := ⟨_, rfl⟩
  have hcd : Chg w wd nob := by rw [← hwd]; exact (Chg.refl w nob).drew
  rw [hwd]
  replace HR := Lib.hid (HR.out.kept hcd)
  replace HJ := Lib.hid (HJ.out.kept hcd (fun h => h))
  replace HM := Lib.hid (HM.out.kept hcd (fun h => h))
  have HC := Lib.hid hcd
  clear hwd hcd
  have q0 := HJ.out.cell 0
  have q1 := HM.out.cell 0
  simp only [List.getElem?_toArray, List.getElem?_cons_zero, List.getElem?_cons_succ] at q0 q1
  obtain ⟨R, hR⟩ : ∃ R, upE most (B.drop p) = R := ⟨_, rfl⟩
  have HE := Lib.hid hR
  clear hR
  (repeat (first | (apply can0; (· rfl); (· rfl); (· (intro w'; first | (go_simp; with_reducible rfl) | (go_simp; done))); simp only [Act.put, List.setIfInBounds_toArray, List.set_cons_zero, List.set_cons_succ]) | (apply can1; (· rfl); (· rfl); (· (first | (go_simp; with_reducible rfl) | (go_simp; done))); simp only [Act.put, List.setIfInBounds_toArray, List.set_cons_zero, List.set_cons_succ]) | (apply canN; (· rfl); (· rfl); simp only [Act.put, List.setIfInBounds_toArray, List.set_cons_zero, List.set_cons_succ]) | (apply canN1; (· rfl); (· rfl); simp only [Act.put, List.setIfInBounds_toArray, List.set_cons_zero, List.set_cons_succ]) | (apply can0; (· rfl); (· (go_simp; done)); (· (intro w'; first | (go_simp; with_reducible rfl) | (go_simp; done))); simp only [Act.put, List.setIfInBounds_toArray, List.set_cons_zero, List.set_cons_succ]) | (apply can1; (· rfl); (· (go_simp; done)); (· (first | (go_simp; with_reducible rfl) | (go_simp; done))); simp only [Act.put, List.setIfInBounds_toArray, List.set_cons_zero, List.set_cons_succ]) | (apply canN; (· rfl); (· (go_simp; done)); simp only [Act.put, List.setIfInBounds_toArray, List.set_cons_zero, List.set_cons_succ]) | (apply canN1; (· rfl); (· (go_simp; done)); simp only [Act.put, List.setIfInBounds_toArray, List.set_cons_zero, List.set_cons_succ])))
  refine canW rfl [0] rfl (fun K hK => ?_)
  go_simp
  go_at_call 75
  refine (upto_any wd g u B p 0 HR.out most R HE.out).mono ?_
  rintro e' w2 ⟨hc, q, hr, hcase⟩
  have HC2 : Hid (Chg w w2 (fun k => k = g)) := Lib.hid ((HC.out.mono (G := fun k => k = g) (fun _ _ h => h.elim)).trans hc (fun _ _ h => h))
  have q2 := (HJ.out.kept hc (fun e => by subst e; have h1 := (HJ.out.inj HR.out.blk).1; revert h1; decide)).cell 0
  simp only [List.getElem?_toArray, List.getElem?_cons_zero, List.getElem?_cons_succ] at q2
  have HR2 := Lib.hid hr
  clear hc hr HR HC HJ HM q0 q1
  rcases hcase with ⟨h1, rfl, hq⟩ | ⟨h1, rfl⟩
  · have HQ := Lib.hid hq
    have HT := Lib.hid (upE_text (tm := most) (l := B.drop p) (n := R.2.1) (k := R.2.2) (by rw [HE.out, ← h1]))
    clear hq
    (refine hK _ _ (fun u hu => by (simp only [List.mem_cons, List.not_mem_nil, or_false] at hu); (first | (subst hu; exact reRun_mk rfl (by first | (go_simp; with_reducible rfl) | (go_simp; done)) (holds_at rfl)) | ((repeat' (first | (rcases hu with rfl | hu) | (subst hu))) <;> exact reRun_mk rfl (by first | (go_simp; with_reducible rfl) | (go_simp; done)) (holds_at rfl)))) ?_; clear hK K; try simp only [Act.put, List.setIfInBounds_toArray, List.set_cons_zero, List.set_cons_succ])
    (repeat (first | (apply can0; (· rfl); (· rfl); (· (intro w'; first | (go_simp; with_reducible rfl) | (go_simp; done))); simp only [Act.put, List.setIfInBounds_toArray, List.set_cons_zero, List.set_cons_succ]) | (apply can1; (· rfl); (· rfl); (· (first | (go_simp; with_reducible rfl) | (go_simp; done))); simp only [Act.put, List.setIfInBounds_toArray, List.set_cons_zero, List.set_cons_succ]) | (apply canN; (· rfl); (· rfl); simp only [Act.put, List.setIfInBounds_toArray, List.set_cons_zero, List.set_cons_succ]) | (apply canN1; (· rfl); (· rfl); simp only [Act.put, List.setIfInBounds_toArray, List.set_cons_zero, List.set_cons_succ]) | (apply can0; (· rfl); (· (go_simp; done)); (· (intro w'; first | (go_simp; with_reducible rfl) | (go_simp; done))); simp only [Act.put, List.setIfInBounds_toArray, List.set_cons_zero, List.set_cons_succ]) | (apply can1; (· rfl); (· (go_simp; done)); (· (first | (go_simp; with_reducible rfl) | (go_simp; done))); simp only [Act.put, List.setIfInBounds_toArray, List.set_cons_zero, List.set_cons_succ]) | (apply canN; (· rfl); (· (go_simp; done)); simp only [Act.put, List.setIfInBounds_toArray, List.set_cons_zero, List.set_cons_succ]) | (apply canN1; (· rfl); (· (go_simp; done)); simp only [Act.put, List.setIfInBounds_toArray, List.set_cons_zero, List.set_cons_succ])))
    refine canW rfl [] rfl (fun K hK => ?_)
    go_simp
    go_at_call 52
    refine (raw_any w2 g u B q 0 HR2.out R.2.1).mono ?_
    rintro e' w3 ⟨hc, hcase⟩
    have HC3 : Hid (Chg w w3 (fun k => k = g)) := Lib.hid (HC2.out.trans hc (fun _ _ h => h))
    have hqle := HR2.out.le
    clear hc HR2
    rcases hcase with ⟨h2, hr, v, rfl, hv⟩ | ⟨h2, hr, rfl⟩
    · have HR3 := Lib.hid hr
      have hrd := rd_string w3 v ((B.drop q).take R.2.1) hv.1.rd
      have hlen : ((B.drop q).take R.2.1).length = R.2.1 := by simp; omega
      obtain ⟨av, cv, rfl, _⟩ := hv.1.form
      rw [hlen] at hrd
      clear hv hr
      (refine hK _ _ (fun u hu => by cases hu) ?_; clear hK K; try simp only [Act.put, List.setIfInBounds_toArray, List.set_cons_zero, List.set_cons_succ])
      (repeat (first | (apply can0; (· rfl); (· rfl); (· (intro w'; first | (go_simp; with_reducible rfl) | (go_simp; done))); simp only [Act.put, List.setIfInBounds_toArray, List.set_cons_zero, List.set_cons_succ]) | (apply can1; (· rfl); (· rfl); (· (first | (go_simp; with_reducible rfl) | (go_simp; done))); simp only [Act.put, List.setIfInBounds_toArray, List.set_cons_zero, List.set_cons_succ]) | (apply canN; (· rfl); (· rfl); simp only [Act.put, List.setIfInBounds_toArray, List.set_cons_zero, List.set_cons_succ]) | (apply canN1; (· rfl); (· rfl); simp only [Act.put, List.setIfInBounds_toArray, List.set_cons_zero, List.set_cons_succ]) | (apply can0; (· rfl); (· (go_simp; done)); (· (intro w'; first | (go_simp; with_reducible rfl) | (go_simp; done))); simp only [Act.put, List.setIfInBounds_toArray, List.set_cons_zero, List.set_cons_succ]) | (apply can1; (· rfl); (· (go_simp; done)); (· (first | (go_simp; with_reducible rfl) | (go_simp; done))); simp only [Act.put, List.setIfInBounds_toArray, List.set_cons_zero, List.set_cons_succ]) | (apply canN; (· rfl); (· (go_simp; done)); simp only [Act.put, List.setIfInBounds_toArray, List.set_cons_zero, List.set_cons_succ]) | (apply canN1; (· rfl); (· (go_simp; done)); simp only [Act.put, List.setIfInBounds_toArray, List.set_cons_zero, List.set_cons_succ])))
      refine canW rfl [] rfl (fun K hK => ?_)
      go_simp
      (refine hK _ _ (fun u hu => by cases hu) ?_; clear hK K; try simp only [Act.put, List.setIfInBounds_toArray, List.set_cons_zero, List.set_cons_succ])
      (repeat (first | (apply can0; (· rfl); (· rfl); (· (intro w'; first | (go_simp; with_reducible rfl) | (go_simp; done))); simp only [Act.put, List.setIfInBounds_toArray, List.set_cons_zero, List.set_cons_succ]) | (apply can1; (· rfl); (· rfl); (· (first | (go_simp; with_reducible rfl) | (go_simp; done))); simp only [Act.put, List.setIfInBounds_toArray, List.set_cons_zero, List.set_cons_succ]) | (apply canN; (· rfl); (· rfl); simp only [Act.put, List.setIfInBounds_toArray, List.set_cons_zero, List.set_cons_succ]) | (apply canN1; (· rfl); (· rfl); simp only [Act.put, List.setIfInBounds_toArray, List.set_cons_zero, List.set_cons_succ]) | (apply can0; (· rfl); (· (go_simp; done)); (· (intro w'; first | (go_simp; with_reducible rfl) | (go_simp; done))); simp only [Act.put, List.setIfInBounds_toArray, List.set_cons_zero, List.set_cons_succ]) | (apply can1; (· rfl); (· (go_simp; done)); (· (first | (go_simp; with_reducible rfl) | (go_simp; done))); simp only [Act.put, List.setIfInBounds_toArray, List.set_cons_zero, List.set_cons_succ]) | (apply canN; (· rfl); (· (go_simp; done)); simp only [Act.put, List.setIfInBounds_toArray, List.set_cons_zero, List.set_cons_succ]) | (apply canN1; (· rfl); (· (go_simp; done)); simp only [Act.put, List.setIfInBounds_toArray, List.set_cons_zero, List.set_cons_succ])))
      refine canE ?_
      go_wp2
      go_ret
      refine ⟨HC3.out, _, HR3.out, .inl ⟨_, rfl, ?_⟩⟩
      rw [HT.out, List.drop_drop, ← HQ.out, if_pos (by rw [List.length_drop]; omega), List.drop_drop]
    · have HR3 := Lib.hid hr
      clear hr
      go_wp2
      refine ⟨rfl, HC3.out, _, HR3.out, .inr ⟨3, by decide, rfl, ?_⟩⟩
      rw [HT.out, List.drop_drop, ← HQ.out, if_neg (by rw [List.length_drop]; omega)]
  · have HT := Lib.hid (upE_notext (tm := most) (l := B.drop p) (by rw [HE.out]; exact h1))
    go_wp2
    exact ⟨rfl, HC2.out, _, HR2.out, .inr ⟨_, h1, rfl, HT.out⟩⟩
/-- What a reading of a text comes to. -/
structure RdText (w w' : World) (g : Nat) (u : Value) (B : List Int) (p : Nat) (e : Int) (most : Nat) (t : ByteArray) (q : Nat) (e' : Int) : Prop where
  r : RdrR w' g u B q e'
  c : Chg w w' (fun k => k = g)
  s : (e' = 0 ∧ e = 0 ∧ textQ most (B.drop p) = some (t, B.drop q)) ∨ (e' ≠ 0 ∧ t = ⟨#[]⟩ ∧ (e ≠ 0 ∨ textQ most (B.drop p) = none))
set_option maxRecDepth 100000 in
set_option maxHeartbeats 1500000 in
theorem rdtext_any (w : World) (g : Nat) (u : Value) (B : List Int) (p : Nat) (e : Int) (h : RdrR w g u B p e) (most : Nat) (hm : most ≤ 1000000) :
    Calls Tryz.prog 54 #[ptr g, .int .i64 most] w fun e' w' => ∃ t q er, e' = .returned (.string t) ∧ RdText w w' g u B p e most t q er := by
  have HR := Lib.hid h
  clear h
  have hmf : ∀ (fn : Fn) (first cap : Array Value) (w : World), (Instr.makeFunc fn first cap).run Tryz.prog w = .ok (.func fn first cap) w := fun _ _ _ _ => rfl
  go_enter Tryz.func54, Tryz.ntmps54
  go_upto_region 1 with (fail)
  obtain ⟨w1, hw⟩ : ∃ W, (w.alloc (.cells #[ptr g] 49)).alloc (.cells #[.int .i64 most] 3) = W := ⟨_, rfl⟩
  have hc1 : Chg w w1 nob := by rw [← hw]; exact ((Chg.refl w nob).alloc _).alloc _
  have hba : Blk w1 w.heap.size 49 #[ptr g] := by rw [← hw]; exact (Blk.new w _ _).alloc _
  have hbd : Blk w1 (w.heap.size + 1) 3 #[.int .i64 most] := by rw [← hw]; exact Blk.new2 w _ _ _
  rw [hw]
  clear hw
  obtain ⟨ia, hia⟩ : ∃ i, w.heap.size = i := ⟨_, rfl⟩
  rw [hia] at hba hbd ⊢
  clear hia
  obtain ⟨id, hid⟩ : ∃ i, ia + 1 = i := ⟨_, rfl⟩
  rw [hid] at hbd ⊢
  clear hid
  have HC := Lib.hid hc1
  replace HR := Lib.hid (HR.out.kept hc1)
  have HA := Lib.hid hba
  have HD := Lib.hid hbd
  have q0 := hba.cell 0
  simp only [List.getElem?_toArray, List.getElem?_cons_zero, List.getElem?_cons_succ] at q0
  clear hc1 hba hbd
  go_wp2_with fail
  go_at_call 76
  refine (tries_text w1 g ia id u B p e HR.out (fun v _ q => ∃ t, v = .string t ∧ textQ most (B.drop p) = some (t, B.drop q)) (fun er => textQ most (B.drop p) = none)
    (fun w3 hc hr => (text1_any w3 g ia id u B p hr most hm (HA.out.kept hc (fun h => h)) (HD.out.kept hc (fun h => h))).mono ?_) (fun v w' w'' q k cs F h _ _ _ => h)).mono ?_
  · rintro e' w' ⟨hc, q, hr, hcase⟩
    refine ⟨hc, q, hr, ?_⟩
    rcases hcase with ⟨s, h1, h2⟩ | ⟨er, h1, h2, h3⟩
    · exact .inl ⟨s, h1, s, rfl, h2⟩
    · exact .inr ⟨er, h1, h2, h3⟩
  · rintro e' w' ⟨hc, hcase⟩
    have hc2 : Chg w w' (fun k => k = g) := (HC.out.mono (G := fun k => k = g) (fun _ _ h => h.elim)).trans hc (fun _ _ h => h)
    rcases hcase with ⟨h1, rfl, hr⟩ | ⟨h1, ⟨t, q, rfl, hr, t', h2, h3⟩ | ⟨er, h2, h3, rfl, hr⟩⟩
    · have HF := Lib.hid (show RdText w w' g u B p e most ⟨#[]⟩ p e from ⟨hr, hc2, .inr ⟨h1, rfl, .inl h1⟩⟩)
      clear hc hc2 hr h1
      go_wp2
      go_ret
      exact ⟨_, _, _, rfl, HF.out⟩
    · obtain rfl : t = t' := by injection h2
      have HF := Lib.hid (show RdText w w' g u B p e most t q 0 from ⟨hr, hc2, .inl ⟨rfl, h1, h3⟩⟩)
      clear hc hc2 hr h1 h2 h3
      go_wp2
      go_ret
      exact ⟨_, _, _, rfl, HF.out⟩
    · have HF := Lib.hid (show RdText w w' g u B p e most ⟨#[]⟩ p er from ⟨hr, hc2, .inr ⟨h2, rfl, .inr h3⟩⟩)
      clear hc hc2 hr h1 h2 h3
      go_wp2
      go_ret
      exact ⟨_, _, _, rfl, HF.out⟩
set_option maxRecDepth 100000 in
set_option maxHeartbeats 1500000 in
theorem raw1_any (w : World) (g jr jm : Nat) (u : Value) (B : List Int) (p : Nat) (h : RdrR w g u B p 0) (n : Nat) (hnb : n ≤ 1000000000) (hr : Blk w jr 49 #[ptr g]) (hm : Blk w jm 3 #[.int .i64 n]) :
    Calls Tryz.prog 51 #[ptr jm, ptr jr] w fun e' w' => Chg w w' (fun k => k = g) ∧ ∃ q, RdrR w' g u B q 0 ∧ ((p + n ≤ B.length ∧ q = p + n ∧ ∃ v, e' = .returned v ∧ Raws w w' v ((B.drop p).take n)) ∨ (B.length < p + n ∧ e' = stopE 3)) := by
  have HR := Lib.hid h
  have q0 := hr.cell 0
  have q1 := hm.cell 0
  simp only [List.getElem?_toArray, List.getElem?_cons_zero, List.getElem?_cons_succ] at q0 q1
  have h0 : ¬ (n : Int) < 0 := by omega
  have hwm : IntKind.u64.wrap (n : Int) = (n : Int) := wraps_u64 _ (by omega) (by omega)
  clear h hr hm
  go_enter Tryz.func51, Tryz.ntmps51
  go_wp2_with fail
  go_at_call 52
  refine (raw_any w g u B p 0 HR.out n).mono ?_
  rintro e' w2 ⟨hc, ⟨h1, hr, v, rfl, hv⟩ | ⟨h1, hr, rfl⟩⟩
  · have hlen : ((B.drop p).take n).length = n := by simp; omega
    obtain ⟨av, cv, hv', _⟩ := hv.1.form
    rw [hlen] at hv'
    subst hv'
    have HH := Lib.hid (And.intro hc (And.intro hr hv))
    clear hc hr hv hlen
    go_wp2
    go_ret
    exact ⟨HH.out.1, _, HH.out.2.1, .inl ⟨h1, rfl, _, rfl, HH.out.2.2⟩⟩
  · have HH := Lib.hid (And.intro hc hr)
    clear hc hr
    go_wp2
    exact ⟨rfl, HH.out.1, _, HH.out.2, .inr ⟨h1, rfl⟩⟩
/-- What a reading of bytes comes to. -/
structure RdRaw (w w' : World) (g : Nat) (u : Value) (B : List Int) (p : Nat) (e : Int) (n : Nat) (v : Value) (L : List Int) (q : Nat) (e' : Int) : Prop where
  r : RdrR w' g u B q e'
  c : Chg w w' (fun k => k = g)
  v : Raws w w' v L
  s : (e' = 0 ∧ e = 0 ∧ p + n ≤ B.length ∧ q = p + n ∧ L = (B.drop p).take n) ∨ (e' ≠ 0 ∧ L = [] ∧ (e ≠ 0 ∨ B.length < p + n))
theorem Raws.nil (w w' : World) : Raws w w' (.slice none 0 0) [] := ⟨World.ownsRow_nil _ _ _ _, fun k hk => by cases hk⟩
set_option maxRecDepth 100000 in
set_option maxHeartbeats 1500000 in
theorem rdraw_any (w : World) (g : Nat) (u : Value) (B : List Int) (p : Nat) (e : Int) (h : RdrR w g u B p e) (n : Nat) (hm : n ≤ 1000000000) :
    Calls Tryz.prog 24 #[ptr g, .int .i64 n] w fun e' w' => ∃ v L q er, e' = .returned v ∧ RdRaw w w' g u B p e n v L q er := by
  have HR := Lib.hid h
  clear h
  have hmf : ∀ (fn : Fn) (first cap : Array Value) (w : World), (Instr.makeFunc fn first cap).run Tryz.prog w = .ok (.func fn first cap) w := fun _ _ _ _ => rfl
  go_enter Tryz.func24, Tryz.ntmps24
  go_upto_region 1 with (fail)
  obtain ⟨w1, hw⟩ : ∃ W, (w.alloc (.cells #[ptr g] 49)).alloc (.cells #[.int .i64 n] 3) = W := ⟨_, rfl⟩
  have hc1 : Chg w w1 nob := by rw [← hw]; exact ((Chg.refl w nob).alloc _).alloc _
  have hba : Blk w1 w.heap.size 49 #[ptr g] := by rw [← hw]; exact (Blk.new w _ _).alloc _
  have hbd : Blk w1 (w.heap.size + 1) 3 #[.int .i64 n] := by rw [← hw]; exact Blk.new2 w _ _ _
  rw [hw]
  clear hw
  obtain ⟨ia, hia⟩ : ∃ i, w.heap.size = i := ⟨_, rfl⟩
  rw [hia] at hba hbd ⊢
  clear hia
  obtain ⟨id, hid⟩ : ∃ i, ia + 1 = i := ⟨_, rfl⟩
  rw [hid] at hbd ⊢
  clear hid
  have HC := Lib.hid hc1
  replace HR := Lib.hid (HR.out.kept hc1)
  have HA := Lib.hid hba
  have HD := Lib.hid hbd
  have q0 := hba.cell 0
  simp only [List.getElem?_toArray, List.getElem?_cons_zero, List.getElem?_cons_succ] at q0
  clear hc1 hba hbd
  go_wp2_with fail
  go_at_call 50
  refine (tries_raw w1 g id ia u B p e HR.out (fun v w' q => p + n ≤ B.length ∧ q = p + n ∧ Raws w1 w' v ((B.drop p).take n)) (fun er => B.length < p + n)
    (fun w3 hc hr => (raw1_any w3 g ia id u B p hr n hm (HA.out.kept hc (fun h => h)) (HD.out.kept hc (fun h => h))).mono ?_) ?_).mono ?_
  · rintro e' w' ⟨hc3, q, hr, hcase⟩
    refine ⟨hc3, q, hr, ?_⟩
    rcases hcase with ⟨h1, h2, v, rfl, h3⟩ | ⟨h1, h2⟩
    · obtain ⟨a, c, rfl, _⟩ := h3.1.form
      exact .inl ⟨_, _, _, rfl, h1, h2, h3.1, fun k hk => Nat.le_trans hc.size (h3.2 k hk)⟩
    · exact .inr ⟨3, by decide, h2, h1⟩
  · rintro v w' w'' q k cs F ⟨h1, h2, h3⟩ hb hc hF
    exact ⟨h1, h2, h3.1.apart hc (fun i hi => by rw [hF i hi]; exact ⟨_, _, hb, by decide⟩), h3.2⟩
  · rintro e' w' ⟨hc, hcase⟩
    have hc2 : Chg w w' (fun k => k = g) := (HC.out.mono (G := fun k => k = g) (fun _ _ h => h.elim)).trans hc (fun _ _ h => h)
    rcases hcase with ⟨h1, rfl, hr⟩ | ⟨h1, ⟨a, m, c, q, rfl, hr, h2, h3, h4⟩ | ⟨er, h2, h3, rfl, hr⟩⟩
    · have HF := Lib.hid (show RdRaw w w' g u B p e n (.slice none 0 0) [] p e from ⟨hr, hc2, Raws.nil _ _, .inr ⟨h1, rfl, .inl h1⟩⟩)
      clear hc hc2 hr h1
      go_wp2
      go_ret
      exact ⟨_, _, _, _, rfl, HF.out⟩
    · have HF := Lib.hid (show RdRaw w w' g u B p e n (.slice a m c) ((B.drop p).take n) q 0 from ⟨hr, hc2, ⟨h4.1, fun k hk => Nat.le_trans HC.out.size (h4.2 k hk)⟩, .inl ⟨rfl, h1, h2, h3, rfl⟩⟩)
      clear hc hc2 hr h1 h2 h3 h4
      go_wp2
      go_ret
      exact ⟨_, _, _, _, rfl, HF.out⟩
    · have HF := Lib.hid (show RdRaw w w' g u B p e n (.slice none 0 0) [] p er from ⟨hr, hc2, Raws.nil _ _, .inr ⟨h2, rfl, .inr h3⟩⟩)
      clear hc hc2 hr h1 h2 h3
      go_wp2
      go_ret
      exact ⟨_, _, _, _, rfl, HF.out⟩
end Go.Proofs.YtmbdpcamhkdkmaaGreatDoor
