/-
  The row of DiffTells.
-/
import Derived.Test.YtmbdpcamhkdkmaaGreatDoorRows
import Derived.Test.YtmbdpcamhkdkmaaGreatDoorMg45
import Derived.Test.YtmbdpcamhkdkmaaGreatDoorMg46
import Derived.Test.YtmbdpcamhkdkmaaGreatDoorTie
import Derived.Test.YtmbdpcamhkdkmaaGreatDoorCards
import Derived.SevenTiedAt
import Derived.LaidMore
import Derived.Stop.Joined
import Derived.WalkKit
import Derived.ProofKit
import Derived.OpenShut
import Derived.ShutString
import Derived.ChangeOld
import Derived.Below
import Derived.SizedLaws
import Derived.ChangeSlices
namespace Go.Proofs.YtmbdpcamhkdkmaaGreatDoor.diffTells
open Go.ChangeShapes Go.WideShapes Go.ChangeAt Go.RowKit
open Go.ChangeMaps (open_string shut_string)
set_option linter.unusedVariables false
theorem own : ownKnob Tryz.prog.godebug = none := by kernel_rfl
theorem und0 : Tryz.prog.underlying 24 = some (.struct (fieldsOf Tryz.prog 24)) := by kernel_rfl
theorem und1 : Tryz.prog.underlying 25 = some (.slice 5) := by kernel_rfl
theorem und2 : Tryz.prog.underlying 5 = some (.int .u8) := by kernel_rfl
theorem und3 : Tryz.prog.underlying 4 = some (.bool) := by kernel_rfl
theorem laidOut : laidOutB Tryz.prog = true := by kernel_rfl
theorem sized_ints {H : Type} {enc : TypeId × Value → H} {P : Program} {W : World} {base : Nat} {spare : Nat → Bool} {held : Bool} {t e : TypeId} {k : IntKind} {a : Option Addr} {len cap : Nat} {d : DataW H} {ps : List MemPlace} {ts : List TypeId} {ds : List (DataW H)} {j : Nat}
    (hsz : (DataW.weightsEach P ts ds).all (· ≤ reachBytes) = true) (ht : ts[j]? = some t) (hd : ds[j]? = some d) (hu : P.underlying t = some (.slice e)) (he : P.underlying e = some (.int k)) (hc : P.cellsOf e = 1) {B : Nat} (hB : P.bytesOf e = B)
    (h : DataW.Trod enc P W base spare held t (.slice a len cap) d ps) : len * B ≤ 140737488351232 := by
  obtain ⟨fuel, hf⟩ := h
  rcases open_ints hu he hc hf with ⟨hcs, _⟩ | ⟨x, l, c, zs, hcs, _, hl, _, hz, hx, _, _⟩
  · simp [Value.cells] at hcs
    obtain ⟨rfl, rfl, rfl⟩ := hcs
    simp
  · simp [Value.cells] at hcs
    obtain ⟨rfl, rfl, rfl⟩ := hcs
    obtain ⟨hx, _⟩ := Prod.mk.inj hx
    subst hx
    have z := sized_slice hsz ht hd hu
    rw [hB] at z
    have hl2 : len ≤ zs.length := by
      rw [hz]
      split
      · exact hl
      · exact Nat.le_refl _
    have h1 : (lits (H := H) k (zs.take len)).length + (lits (H := H) k (zs.drop len)).length = zs.length := by
      simp [lits]
      omega
    rw [h1] at z
    exact Nat.le_trans (Nat.mul_le_mul_right _ hl2) z
theorem nilRow {a : Option Addr} {len cap : Nat} {zs : List Int} {Q : Addr → Prop} (h : (a = none ∧ len = 0 ∧ cap = 0 ∧ zs = []) ∨ ∃ x, a = some x ∧ Q x) : NilOk (.slice a len cap) := by
  intro n c e
  rcases h with ⟨rfl, rfl, rfl, rfl⟩ | ⟨x, rfl, _⟩
  · cases e; rfl
  · cases e
theorem door_met (os : Os) (args : Array Value) : laidMetH Tryz.prog cellLaid ((World.doorLaid Tryz.prog 400 os).forCall (fun _ _ => 0) ⟨#[], args, []⟩).memory :=
  laidMetH_of_parts3 (fuel := 8) (laidMet_of_run' 8 (by kernel_rfl) (by kernel_rfl)) (by kernel_rfl) (by kernel_rfl)
set_option maxRecDepth 100000 in
theorem lifted (os : Os) (started : os.Started) (H : Type) (enc : TypeId × Value → H) :
    ReturnsInHanded {} Tryz.checked os 3 .any (fun w args => (Rows.diffTellsSpec.pre enc Tryz.prog Tryz.f3 [] false w args ∧ laidMetH Tryz.prog cellLaid w) ∧ sizedMet enc Tryz.prog Tryz.f3 (OpenSpec.ofChange Rows.diffTellsSpec) false w args) (Rows.diffTellsSpec.post enc Tryz.prog Tryz.f3 false true false false) := by
  refine returnsInHanded_of_change_and (C := Tryz.checked) (X := fun w _ => laidMetH Tryz.prog cellLaid w) (fun _ _ _ hh h => h.of_heap hh) own started (by kernel_rfl) Tryz.func3
    (ChangeSpec.witness_shaped (enc := enc) (C := Tryz.checked) (os := os) (X := fun w _ => laidMetH Tryz.prog cellLaid w) false (World.doorLaid Tryz.prog 400 os) #[.agg #[.int .i64 0, .int .i64 0, .slice none 0 0, .int .i64 0, .int .i64 0, .bool false, .string ByteArray.empty], .agg #[.int .i64 0, .int .i64 0, .slice none 0 0, .int .i64 0, .int .i64 0, .bool false, .string ByteArray.empty], .slice none 0 0] 8 rfl (World.shaped_of_RefB (by kernel_rfl) (by kernel_rfl)) (by kernel_rfl) (by kernel_rfl) (by kernel_rfl) (door_met os _)) ?_
  intro W base args ds gs before hval0 hW hcnd hsz0 hL _
  have htab := tab_of_laid hL
  have hsz : (DataW.weightsEach Tryz.prog (Tryz.f3.params.toList ++ Rows.diffTellsSpec.plain.varTypes Tryz.prog) (ds ++ gs)).all (· ≤ reachBytes) = true := hsz0
  have hval : ∀ (j : Nat) t v, Tryz.f3.params[j]? = some t → args[j]? = some v → Value.okWide Tryz.prog W .any base t v := hval0
  have hW' := hW
  obtain ⟨p, q, hA0, hV, rfl, hfz, hnd⟩ := hW
  have hA : DataW.TrodAll enc Tryz.prog W 0 (fun _ => true) true Tryz.f3.params.toList args.toList ds p := hA0
  rw [Tryz.params3] at hA hval hsz
  obtain ⟨v0, vs0, d0, ds0, p0, q0, hargs, rfl, rfl, h0, tr0⟩ := trodAll_cons hA
  obtain ⟨v1, vs1, d1, ds1, p1, q1, rfl, rfl, rfl, h1, tr1⟩ := trodAll_cons tr0
  obtain ⟨v2, vs2, d2, ds2, p2, q2, rfl, rfl, rfl, h2, tr2⟩ := trodAll_cons tr1
  obtain ⟨rfl, rfl, rfl⟩ := trodAll_nil tr2
  obtain rfl : args = #[v0, v1, v2] := by cases args; simp_all
  obtain ⟨rfl, rfl⟩ := trodVars_none hV
  have k0 := h0
  have lt0 : ∀ x ∈ p0, x.block < W.heap.size := by obtain ⟨m, hm⟩ := k0; exact DataW.trod_lt m _ _ _ hm
  obtain ⟨r0, c0, y0, x0, hh0, t0, va0, l0, rfl, hr0, nk0, wf0, wr0, wc0, wy0, wx0⟩ := screen_open (hval 0 24 v0 rfl rfl) h0
  have k1 := h1
  have lt1 : ∀ x ∈ p1, x.block < W.heap.size := by obtain ⟨m, hm⟩ := k1; exact DataW.trod_lt m _ _ _ hm
  obtain ⟨r1, c1, y1, x1, hh1, t1, va1, l1, rfl, hr1, nk1, wf1, wr1, wc1, wy1, wx1⟩ := screen_open (hval 1 24 v1 rfl rfl) h1
  obtain ⟨a2, len2, cap2, rfl⟩ := okWide_slice und1 (hval 2 25 v2 rfl rfl)
  have k2 := h2
  have lt2 : ∀ x ∈ p2, x.block < W.heap.size := by obtain ⟨m, hm⟩ := k2; exact DataW.trod_lt m _ _ _ hm
  obtain ⟨z2, wz2⟩ : ∃ zs : List Int, (a2 = none ∧ len2 = 0 ∧ cap2 = 0 ∧ zs = []) ∨ ∃ x, a2 = some x ∧ len2 ≤ cap2 ∧ cap2 ≤ maxLen ∧ zs.length = cap2 ∧ (∀ i, i < zs.length → W.cell? (x.add i) = some (.int .u8 (zs.getD i 0))) ∧ ∀ n ∈ zs, (Lit.int .u8 n).wf = true := by
    obtain ⟨fuel, hf⟩ := h2
    rcases open_ints und1 und2 (by kernel_rfl) hf with ⟨hcs, _⟩ | ⟨x, l, c, zs, hcs, _, hl, hm, hz, _, hcell, hwz⟩
    · simp [Value.cells] at hcs
      obtain ⟨rfl, rfl, rfl⟩ := hcs
      exact ⟨[], .inl ⟨rfl, rfl, rfl, rfl⟩⟩
    · simp [Value.cells] at hcs
      obtain ⟨rfl, rfl, rfl⟩ := hcs
      exact ⟨zs, .inr ⟨_, rfl, hl, hm, by simpa using hz, hcell, hwz⟩⟩
  have y2 : len2 * 1 ≤ 140737488351232 := sized_ints hsz (j := 2) (t := 25) rfl rfl und1 und2 (by kernel_rfl) (by kernel_rfl) h2
  obtain ⟨hr2, hl2, hw2⟩ := Rd.ofRow wz2
  clear hA0 hval0 hsz0 hsz
  refine (DiffTells_walk (w := W) (r0 := r0) (c0 := c0) (y0 := y0) (x0 := x0) (h0 := hh0) (t0 := t0) (va0 := va0) (l0 := l0) (hr0 := hr0) (nk0 := nk0) (wf0 := wf0) (w0 := ⟨wf_i64_b wr0, wf_i64_b wc0, wf_i64_b wy0, wf_i64_b wx0⟩) (r1 := r1) (c1 := c1) (y1 := y1) (x1 := x1) (h1 := hh1) (t1 := t1) (va1 := va1) (l1 := l1) (hr1 := hr1) (nk1 := nk1) (wf1 := wf1) (w1 := ⟨wf_i64_b wr1, wf_i64_b wc1, wf_i64_b wy1, wf_i64_b wx1⟩) (a2 := a2) (len2 := len2) (cap2 := cap2) (l2 := z2.take len2) (hr2 := hr2) (hl2 := hl2) (y2 := y2) (w2 := fun x hx => wf_u8_b (hw2 x hx)) (ht := htab) (nk2 := nilRow wz2)).mono fun e W' ⟨he, bel⟩ => ?_
  subst he
  exact ⟨_, rfl, _, _, _, [], _, [], hW', trodAll_mk1 (shut_bool und3 _), (trodAll_cons_mk (Below.trod laidOut (by kernel_rfl) (of_decide_eq_true (by kernel_rfl)) k0 bel.toBelow lt0) (trodAll_cons_mk (Below.trod laidOut (by kernel_rfl) (of_decide_eq_true (by kernel_rfl)) k1 bel.toBelow lt1) (trodAll_cons_mk (Below.trod laidOut (by kernel_rfl) (of_decide_eq_true (by kernel_rfl)) k2 bel.toBelow lt2) trodAll_mk0))), rfl, bel.toBelow.frame _, fun h => by cases h⟩
theorem over : Rows.diffTellsRow.holds Tryz.pinned (OpenSpec.ofChange Rows.diffTellsSpec) :=
  OpenClaim.holds_of_wide 3 Tryz.f3 rfl rfl rfl rfl rfl rfl rfl ⟨rfl, rfl, rfl, rfl, rfl⟩ rfl rfl rfl rfl rfl (by kernel_rfl) Tryz.func3 (by kernel_rfl)
    (of_decide_eq_true (by kernel_rfl)) (by unfold Func.isWrapper; first | (rw [if_pos (by decide +kernel)]; kernel_rfl) | (rw [if_neg (by decide +kernel)]; exact ⟨rfl, rfl⟩))
    (fun os started H enc _ => lifted os started H enc)
theorem card : Rows.DiffTellsCardSaid :=
  Claim7.holds_tied_plain_at .later [] _ true _ _ over (fun _ h => by cases h) (by kernel_rfl) (fun _ h => by cases h) diffTells_row_tie rfl ⟨rfl, rfl⟩ (by kernel_rfl) rfl
    (fun g fn hg hfn => by
      obtain rfl : g = 3 := Option.some.inj ((show Tryz.prog.funcNamed "tickertape/tiklaw14.DiffTells" = some 3 by kernel_rfl).symm.trans hg) |>.symm
      obtain rfl : fn = Tryz.f3 := (Option.some.inj (Tryz.func3.symm.trans hfn)).symm
      exact ⟨by kernel_rfl, fun j t ht => by
        rw [Tryz.params3] at ht
        have hm : t ∈ [24, 24, 25] := by simpa using Array.mem_of_getElem? ht
        have hall : ([24, 24, 25].all fun u => !Tryz.prog.wantsStandIn u) = true := by kernel_rfl
        exact (show Tryz.prog.wantsStandIn t = false by simpa using List.all_eq_true.1 hall t hm)⟩)
    (by kernel_rfl)
end Go.Proofs.YtmbdpcamhkdkmaaGreatDoor.diffTells
namespace Go.Proofs.YtmbdpcamhkdkmaaGreatDoor
theorem DiffTells_holds : Rows.DiffTellsCardSaid := diffTells.card
#print axioms DiffTells_holds
end Go.Proofs.YtmbdpcamhkdkmaaGreatDoor
