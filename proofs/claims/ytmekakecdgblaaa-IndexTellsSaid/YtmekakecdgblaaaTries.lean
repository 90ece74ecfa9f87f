
/-
  The program's reader: what is deferred around a reading.
-/
import Derived.Test.YtmekakecdgblaaaRdr2
namespace Go.Proofs.Ytmekakecdgblaaa
open Go.RowKit
set_option linter.unusedVariables false
set_option linter.unusedSimpArgs false

/-- What a deferred closure finds: the reader, where it stood, what is none, the result. -/
structure Four4 (w : World) (T : TypeId) (g ia ib ic id : Nat) (at_ : Nat) (z v : Value) : Prop where
  a : Blk w ia 46 #[ptr g]
  b : Blk w ib 3 #[.int .i64 at_]
  c : Blk w ic T #[z]
  d : Blk w id T #[v]
  n : ic ≠ id
section
variable {w w' : World} {T : TypeId} {g ia ib ic id at_ p : Nat} {u z v : Value} {B : List Int} {e : Int}
theorem Four4.kept (h : Four4 w T g ia ib ic id at_ z v) (hc : Chg w w' nob) : Four4 w' T g ia ib ic id at_ z v := ⟨h.a.kept hc (fun h => h), h.b.kept hc (fun h => h), h.c.kept hc (fun h => h), h.d.kept hc (fun h => h), h.n⟩
theorem Four4.keptG (h : Four4 w T g ia ib ic id at_ z v) (hr : RdrR w g u B p e) (hT : T ≠ 65) (hc : Chg w w' (fun k => k = g)) : Four4 w' T g ia ib ic id at_ z v := by
  refine ⟨h.a.kept hc fun e => ?_, h.b.kept hc fun e => ?_, h.c.kept hc fun e => ?_, h.d.kept hc fun e => ?_, h.n⟩
  · subst e; have h1 := (h.a.inj hr.blk).1; revert h1; decide
  · subst e; have h1 := (h.b.inj hr.blk).1; revert h1; decide
  · subst e; exact hT (h.c.inj hr.blk).1
  · subst e; exact hT (h.d.inj hr.blk).1
theorem Four4.set (h : Four4 w T g ia ib ic id at_ z v) (hT : T ≠ 46) (hT2 : T ≠ 3) (x : Value) : Four4 (w.setCell ⟨id, 0, none⟩ x) T g ia ib ic id at_ z x :=
  ⟨h.a.other (p := ⟨id, 0, none⟩) (fun e => hT (by subst e; exact ((h.a.inj h.d).1).symm)) _, h.b.other (p := ⟨id, 0, none⟩) (fun e => hT2 (by subst e; exact ((h.b.inj h.d).1).symm)) _, h.c.other (p := ⟨id, 0, none⟩) h.n _, h.d.set 0 _, h.n⟩
theorem RdrR.setOther (h : RdrR w g u B p e) {k : Nat} {cs : Array Value} (hk : Blk w k T cs) (hT : T ≠ 65) (hT2 : 5 ≠ T) (o : Nat) (x : Value) : RdrR (w.setCell ⟨k, o, none⟩ x) g u B p e :=
  ⟨h.blk.other (p := ⟨k, o, none⟩) (fun e => hT (by subst e; exact ((h.blk.inj hk).1).symm)) _, h.own.setOther (p := ⟨k, o, none⟩) (h.own.ne hk hT2) _, h.byte, h.le, h.big⟩
theorem Four4.ne (h : Four4 w T g ia ib ic id at_ z v) (hr : RdrR w g u B p e) (hT : T ≠ 65) : id ≠ g := fun e => by subst e; exact hT (h.d.inj hr.blk).1
end
set_option maxRecDepth 100000 in
set_option maxHeartbeats 2000000 in
theorem num_pan (w : World) (g ia ib ic id at_ p : Nat) (u v : Value) (B : List Int) (e er : Int) (he : er ≠ 0) (h : RdrR w g u B p e) (hat : at_ ≤ B.length) (h4 : Four4 w 24 g ia ib ic id at_ (.int .u64 0) v) :
    CallsD Try.prog 47 #[ptr ia, ptr ib, ptr ic, ptr id] (.panicking [{ v := .iface 68 (.agg #[.int .i64 er]), recovered := false }]) w fun e' u' w' =>
      e' = .returned (.tuple #[]) ∧ u' = .panicking [{ v := .iface 68 (.agg #[.int .i64 er]), recovered := true }] ∧ RdrR w' g u B at_ er ∧ Blk w' id 24 #[.int .u64 0] ∧ Chg w w' (fun k => k = g ∨ k = id) := by
  have HR := Lib.hid h
  have H4 := Lib.hid h4
  clear h h4
  refine callsD_of_wpS Try.func47 rfl fun c₀ cs hu => ?_
  simp only [Try.ntmps47, List.size_toArray, List.length_cons, List.length_nil, Nat.reduceAdd, Nat.reduceSub, Array.replicate_succ, Array.replicate_zero, List.push_toArray, List.append_toArray, List.nil_append, List.cons_append]
  apply wpS_seq
  refine wpS_orders [[0, 1, 2, 3, 4], [1, 0, 2, 3, 4], [1, 2, 0, 3, 4], [1, 2, 3, 0, 4]] rfl (by kernel_rfl) ?_
  obtain ⟨wd, hwd⟩ : ∃ W, ({ w with drawn := w.drawn + 1 } : World) = W := ⟨_, rfl⟩
  have hcd : Chg w wd nob := by rw [← hwd]; exact (Chg.refl w nob).drew
  rw [hwd]
  have HRd := Lib.hid (HR.out.kept hcd)
  have H4d := Lib.hid (H4.out.kept hcd)
  clear hwd
  have qa := H4d.out.a.cell 0
  simp only [List.getElem?_toArray, List.getElem?_cons_zero] at qa
  intro σ hσ
  simp only [List.mem_cons, List.not_mem_nil, or_false] at hσ
  rcases hσ with rfl | rfl | rfl | rfl
  all_goals simp [wpOpsS, go_sem, recoverD, hu, Try.ntmps47, Exit.thenS, qa]
  refine ?same
  rotate_left
  exact ?same
  exact ?same
  exact ?same
  refine (caught_stop wd g u B p e er HRd.out).mono ?_
  rintro e' w2 ⟨rfl, hr, hc⟩
  have HR2 := Lib.hid hr
  have H42 := Lib.hid (H4d.out.keptG HRd.out (by decide) hc)
  have HC := Lib.hid (hcd.mono (G := fun k => k = g) (fun _ _ h => h.elim) |>.trans hc (fun _ _ h => h))
  clear hr hc
  have ra := H42.out.a.cell 0
  have rb := H42.out.b.cell 0
  have rc := H42.out.c.cell 0
  have rd := H42.out.d.cell 0
  have re := HR2.out.blk.cell 2
  have rp := HR2.out.blk.cell 1
  simp only [List.getElem?_toArray, List.getElem?_cons_zero, List.getElem?_cons_succ] at ra rb rc rd re rp
  have fd := H42.out.d.free 0
  have fg := HR2.out.blk.free 1
  have hne : id ≠ g := H42.out.ne HR2.out (by decide)
  have hne2 : g ≠ id := Ne.symm hne
  have hee : (er != 0) = true := by simpa using he
  simp only []
  refine wpS_of_wp ?_
  generalize hQ : (fun (e : Exit) (a' : Act) (w' : World) => bodyPostS _ _ _ _ _ e a' _ w') = Q
  have HQ := Lib.hid hQ
  clear hQ
  go_wp2
  rw [← HQ.out]
  exact ⟨rfl, _, rfl, _, results_none rfl _ _ _, rfl, rfl, ⟨(HR2.out.set1 at_ hat).blk.other (p := ⟨id, 0, none⟩) hne2 _, (HR2.out.set1 at_ hat).own.setOther (p := ⟨id, 0, none⟩) ((HR2.out.set1 at_ hat).own.ne (H42.out.d.other (p := ⟨g, 1, none⟩) hne _) (by decide)) _, HR2.out.byte, hat, HR2.out.big⟩, (H42.out.d.other (p := ⟨g, 1, none⟩) hne _).set 0 _, ((HC.out.mono (G := fun k => k = g ∨ k = id) (fun _ _ h => .inl h)).setCell (p := ⟨g, 1, none⟩) (.inl (.inl rfl)) _).setCell (p := ⟨id, 0, none⟩) (.inl (.inr rfl)) _⟩
set_option maxRecDepth 100000 in
set_option maxHeartbeats 2000000 in
theorem num_ret (w : World) (g ia ib ic id at_ p : Nat) (u v : Value) (B : List Int) (h : RdrR w g u B p 0) (h4 : Four4 w 24 g ia ib ic id at_ (.int .u64 0) v) :
    CallsD Try.prog 47 #[ptr ia, ptr ib, ptr ic, ptr id] .returning w fun e' u' w' =>
      e' = .returned (.tuple #[]) ∧ u' = .returning ∧ Chg w w' nob := by
  have HR := Lib.hid h
  have H4 := Lib.hid h4
  clear h h4
  refine callsD_of_wpS Try.func47 rfl fun c₀ cs hu => ?_
  simp only [Try.ntmps47, List.size_toArray, List.length_cons, List.length_nil, Nat.reduceAdd, Nat.reduceSub, Array.replicate_succ, Array.replicate_zero, List.push_toArray, List.append_toArray, List.nil_append, List.cons_append]
  apply wpS_seq
  refine wpS_orders [[0, 1, 2, 3, 4], [1, 0, 2, 3, 4], [1, 2, 0, 3, 4], [1, 2, 3, 0, 4]] rfl (by kernel_rfl) ?_
  obtain ⟨wd, hwd⟩ : ∃ W, ({ w with drawn := w.drawn + 1 } : World) = W := ⟨_, rfl⟩
  have hcd : Chg w wd nob := by rw [← hwd]; exact (Chg.refl w nob).drew
  rw [hwd]
  have HRd := Lib.hid (HR.out.kept hcd)
  have H4d := Lib.hid (H4.out.kept hcd)
  clear hwd
  have qa := H4d.out.a.cell 0
  simp only [List.getElem?_toArray, List.getElem?_cons_zero] at qa
  have re := HRd.out.blk.cell 2
  simp only [List.getElem?_toArray, List.getElem?_cons_zero, List.getElem?_cons_succ] at re
  intro σ hσ
  simp only [List.mem_cons, List.not_mem_nil, or_false] at hσ
  rcases hσ with rfl | rfl | rfl | rfl
  all_goals simp [wpOpsS, go_sem, recoverD, hu, Try.ntmps47, Exit.thenS, qa]
  refine ?same
  rotate_left
  exact ?same
  exact ?same
  exact ?same
  refine (caught_nil wd _).mono ?_
  rintro e' w2 ⟨rfl, rfl⟩
  simp only []
  refine wpS_of_wp ?_
  generalize hQ : (fun (e : Exit) (a' : Act) (w' : World) => bodyPostS _ _ _ _ _ e a' _ w') = Q
  have HQ := Lib.hid hQ
  clear hQ
  go_wp2
  rw [← HQ.out]
  exact ⟨rfl, .returning, by rw [← hu], _, results_none rfl _ _ _, rfl, rfl, hcd⟩
set_option maxRecDepth 100000 in
set_option maxHeartbeats 2000000 in
theorem raw_pan (w : World) (g ia ib ic id at_ p : Nat) (u v : Value) (B : List Int) (e er : Int) (he : er ≠ 0) (h : RdrR w g u B p e) (hat : at_ ≤ B.length) (h4 : Four4 w 23 g ia ib ic id at_ (.slice none 0 0) v) :
    CallsD Try.prog 44 #[ptr ia, ptr ib, ptr ic, ptr id] (.panicking [{ v := .iface 68 (.agg #[.int .i64 er]), recovered := false }]) w fun e' u' w' =>
      e' = .returned (.tuple #[]) ∧ u' = .panicking [{ v := .iface 68 (.agg #[.int .i64 er]), recovered := true }] ∧ RdrR w' g u B at_ er ∧ Blk w' id 23 #[.slice none 0 0] ∧ Chg w w' (fun k => k = g ∨ k = id) := by
  have HR := Lib.hid h
  have H4 := Lib.hid h4
  clear h h4
  refine callsD_of_wpS Try.func44 rfl fun c₀ cs hu => ?_
  simp only [Try.ntmps44, List.size_toArray, List.length_cons, List.length_nil, Nat.reduceAdd, Nat.reduceSub, Array.replicate_succ, Array.replicate_zero, List.push_toArray, List.append_toArray, List.nil_append, List.cons_append]
  apply wpS_seq
  refine wpS_orders [[0, 1, 2, 3, 4], [1, 0, 2, 3, 4], [1, 2, 0, 3, 4], [1, 2, 3, 0, 4]] rfl (by kernel_rfl) ?_
  obtain ⟨wd, hwd⟩ : ∃ W, ({ w with drawn := w.drawn + 1 } : World) = W := ⟨_, rfl⟩
  have hcd : Chg w wd nob := by rw [← hwd]; exact (Chg.refl w nob).drew
  rw [hwd]
  have HRd := Lib.hid (HR.out.kept hcd)
  have H4d := Lib.hid (H4.out.kept hcd)
  clear hwd
  have qa := H4d.out.a.cell 0
  simp only [List.getElem?_toArray, List.getElem?_cons_zero] at qa
  intro σ hσ
  simp only [List.mem_cons, List.not_mem_nil, or_false] at hσ
  rcases hσ with rfl | rfl | rfl | rfl
  all_goals simp [wpOpsS, go_sem, recoverD, hu, Try.ntmps44, Exit.thenS, qa]
  refine ?same
  rotate_left
  exact ?same
  exact ?same
  exact ?same
  refine (caught_stop wd g u B p e er HRd.out).mono ?_
  rintro e' w2 ⟨rfl, hr, hc⟩
  have HR2 := Lib.hid hr
  have H42 := Lib.hid (H4d.out.keptG HRd.out (by decide) hc)
  have HC := Lib.hid (hcd.mono (G := fun k => k = g) (fun _ _ h => h.elim) |>.trans hc (fun _ _ h => h))
  clear hr hc
  have ra := H42.out.a.cell 0
  have rb := H42.out.b.cell 0
  have rc := H42.out.c.cell 0
  have rd := H42.out.d.cell 0
  have re := HR2.out.blk.cell 2
  have rp := HR2.out.blk.cell 1
  simp only [List.getElem?_toArray, List.getElem?_cons_zero, List.getElem?_cons_succ] at ra rb rc rd re rp
  have fd := H42.out.d.free 0
  have fg := HR2.out.blk.free 1
  have hne : id ≠ g := H42.out.ne HR2.out (by decide)
  have hne2 : g ≠ id := Ne.symm hne
  have hee : (er != 0) = true := by simpa using he
  simp only []
  refine wpS_of_wp ?_
  generalize hQ : (fun (e : Exit) (a' : Act) (w' : World) => bodyPostS _ _ _ _ _ e a' _ w') = Q
  have HQ := Lib.hid hQ
  clear hQ
  go_wp2
  rw [← HQ.out]
  exact ⟨rfl, _, rfl, _, results_none rfl _ _ _, rfl, rfl, ⟨(HR2.out.set1 at_ hat).blk.other (p := ⟨id, 0, none⟩) hne2 _, (HR2.out.set1 at_ hat).own.setOther (p := ⟨id, 0, none⟩) ((HR2.out.set1 at_ hat).own.ne (H42.out.d.other (p := ⟨g, 1, none⟩) hne _) (by decide)) _, HR2.out.byte, hat, HR2.out.big⟩, (H42.out.d.other (p := ⟨g, 1, none⟩) hne _).set 0 _, ((HC.out.mono (G := fun k => k = g ∨ k = id) (fun _ _ h => .inl h)).setCell (p := ⟨g, 1, none⟩) (.inl (.inl rfl)) _).setCell (p := ⟨id, 0, none⟩) (.inl (.inr rfl)) _⟩
set_option maxRecDepth 100000 in
set_option maxHeartbeats 2000000 in
theorem raw_ret (w : World) (g ia ib ic id at_ p : Nat) (u v : Value) (B : List Int) (h : RdrR w g u B p 0) (h4 : Four4 w 23 g ia ib ic id at_ (.slice none 0 0) v) :
    CallsD Try.prog 44 #[ptr ia, ptr ib, ptr ic, ptr id] .returning w fun e' u' w' =>
      e' = .returned (.tuple #[]) ∧ u' = .returning ∧ Chg w w' nob := by
  have HR := Lib.hid h
  have H4 := Lib.hid h4
  clear h h4
  refine callsD_of_wpS Try.func44 rfl fun c₀ cs hu => ?_
  simp only [Try.ntmps44, List.size_toArray, List.length_cons, List.length_nil, Nat.reduceAdd, Nat.reduceSub, Array.replicate_succ, Array.replicate_zero, List.push_toArray, List.append_toArray, List.nil_append, List.cons_append]
  apply wpS_seq
  refine wpS_orders [[0, 1, 2, 3, 4], [1, 0, 2, 3, 4], [1, 2, 0, 3, 4], [1, 2, 3, 0, 4]] rfl (by kernel_rfl) ?_
  obtain ⟨wd, hwd⟩ : ∃ W, ({ w with drawn := w.drawn + 1 } : World) = W := ⟨_, rfl⟩
  have hcd : Chg w wd nob := by rw [← hwd]; exact (Chg.refl w nob).drew
  rw [hwd]
  have HRd := Lib.hid (HR.out.kept hcd)
  have H4d := Lib.hid (H4.out.kept hcd)
  clear hwd
  have qa := H4d.out.a.cell 0
  simp only [List.getElem?_toArray, List.getElem?_cons_zero] at qa
  have re := HRd.out.blk.cell 2
  simp only [List.getElem?_toArray, List.getElem?_cons_zero, List.getElem?_cons_succ] at re
  intro σ hσ
  simp only [List.mem_cons, List.not_mem_nil, or_false] at hσ
  rcases hσ with rfl | rfl | rfl | rfl
  all_goals simp [wpOpsS, go_sem, recoverD, hu, Try.ntmps44, Exit.thenS, qa]
  refine ?same
  rotate_left
  exact ?same
  exact ?same
  exact ?same
  refine (caught_nil wd _).mono ?_
  rintro e' w2 ⟨rfl, rfl⟩
  simp only []
  refine wpS_of_wp ?_
  generalize hQ : (fun (e : Exit) (a' : Act) (w' : World) => bodyPostS _ _ _ _ _ e a' _ w') = Q
  have HQ := Lib.hid hQ
  clear hQ
  go_wp2
  rw [← HQ.out]
  exact ⟨rfl, .returning, by rw [← hu], _, results_none rfl _ _ _, rfl, rfl, hcd⟩
end Go.Proofs.Ytmekakecdgblaaa
