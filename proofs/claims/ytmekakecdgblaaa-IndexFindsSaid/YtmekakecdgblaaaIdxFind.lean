
/-
  Chapter 19: the place of the last entry that is not behind a time: index.Find (a range over slices.Backward), and the document's.
-/
import Derived.RangeFuncNested
import Derived.RangeFuncLeaves
import Derived.OwnWalkIn
import Derived.TacticsInMore
import Derived.LoopNIn
import Derived.LoopIn
import Derived.Shelf.Abstract
import Derived.WalkKit
import Derived.Test.YtmekakecdgblaaaIdx4
namespace Go.Proofs.Ytmekakecdgblaaa
open Go.RowKit
set_option linter.unusedVariables false
set_option linter.unusedSimpArgs false

attribute [local go_sem] Oper.semAt_some
abbrev zEn : En := ⟨0, 0, 0, 0⟩
/-- The last of the first k that is not behind t. -/
def findN (l : List En) (t : Nat) : Nat → Int
  | 0 => -1
  | k + 1 => if (l.getD k zEn).t ≤ t then (k : Int) else findN l t k
theorem findN_lt (l : List En) (t : Nat) : ∀ k, -1 ≤ findN l t k ∧ findN l t k < k
  | 0 => ⟨Int.le_refl _, by (show (-1 : Int) < ((0 : Nat) : Int)); omega⟩
  | k + 1 => by
    have := findN_lt l t k
    unfold findN
    split <;> omega
theorem findN_none (l : List En) (t : Nat) : ∀ k, (∀ j, j < k → ¬ (l.getD j zEn).t ≤ t) → findN l t k = -1
  | 0, _ => rfl
  | k + 1, h => by rw [findN, if_neg (h k (by omega)), findN_none l t k (fun j hj => h j (by omega))]
theorem findN_is (l : List En) (t m : Nat) : ∀ k, m < k → (l.getD m zEn).t ≤ t → (∀ j, m < j → j < k → ¬ (l.getD j zEn).t ≤ t) → findN l t k = m
  | 0, h, _, _ => by omega
  | k + 1, h, h1, h2 => by
    by_cases hm : m = k
    · subst hm; rw [findN, if_pos h1]
    · rw [findN, if_neg (h2 k (by omega) (by omega)), findN_is l t m k (by omega) h1 (fun j h3 h4 => h2 j h3 (by omega))]
/-- What was found is not behind t; what follows is. -/
theorem findN_spec (l : List En) (t : Nat) : ∀ k, (∀ m : Nat, findN l t k = m → (l.getD m zEn).t ≤ t) ∧ (∀ j : Nat, findN l t k < j → j < k → ¬ (l.getD j zEn).t ≤ t)
  | 0 => ⟨fun m h => by (have h' : (-1 : Int) = (m : Int) := h); omega, fun j _ h => by omega⟩
  | k + 1 => by
    obtain ⟨h1, h2⟩ := findN_spec l t k
    unfold findN
    split
    · rename_i hc
      exact ⟨fun m h => by have : k = m := by omega
                           subst this; exact hc, fun j h3 h4 => by omega⟩
    · rename_i hc
      refine ⟨h1, fun j h3 h4 => ?_⟩
      by_cases hj : j = k
      · subst hj; exact hc
      · exact h2 j h3 (by omega)
/-- What has come, from the end on, when m are left. -/
def rvE (L : List En) (m : Nat) : List (Nat × En) := (List.range (L.length - m)).map fun k => (L.length - 1 - k, L.getD (L.length - 1 - k) zEn)
theorem rvE_step (L : List En) {m : Nat} (h : m < L.length) : rvE L m = rvE L (m + 1) ++ [(m, L.getD m zEn)] := by
  unfold rvE
  rw [show L.length - m = (L.length - (m + 1)) + 1 by omega, List.range_succ, List.map_append]
  simp only [List.map_cons, List.map_nil]
  rw [show L.length - 1 - (L.length - (m + 1)) = m by omega]
theorem rvE_len (L : List En) (m : Nat) : (rvE L m).length = L.length - m := by simp [rvE]
theorem rvE_end (L : List En) : rvE L L.length = [] := by simp [rvE]
theorem rvE_mem (L : List En) {m j : Nat} (h1 : m ≤ j) (h2 : j < L.length) : (j, L.getD j zEn) ∈ rvE L m := by
  unfold rvE
  rw [List.mem_map]
  exact ⟨L.length - 1 - j, List.mem_range.2 (by omega), by rw [show L.length - 1 - (L.length - 1 - j) = j by omega]⟩
theorem EnR.lt {w : World} {b o : Nat} {l : List En} (h : EnR w (some ⟨b, o, none⟩) l) (hl : l ≠ []) : b < w.heap.size := by
  cases l with
  | nil => exact absurd rfl hl
  | cons e l =>
    obtain ⟨b', o', hb, hc, _⟩ := h 0 e rfl
    cases hb
    rcases Nat.lt_or_ge b w.heap.size with h1 | h1
    · exact h1
    · exfalso
      rw [World.cell?, Array.getElem?_eq_none h1] at hc
      cases hc
theorem blk_own {β : Type} (B : Nat) (t : TypeId) (cs : Array Value) : Go.Own (fun (_ : β) W => Blk W B t cs) := fun s X Y row hs hg hrow =>
  (hg.block B hs.lt (fun e' => by
    obtain ⟨o, ho, hc⟩ := hrow B e'.symm
    rw [show X.heap[B]? = _ from hs] at ho
    cases ho
    cases hc)).trans hs
set_option maxRecDepth 100000 in
set_option maxHeartbeats 2000000 in
theorem back1_in (F : Fence) (n : Nat) (h7 : F.fn 42) (hro : F.round = none) (hn : 1 ≤ n) (l Bs n₀ : Nat) (a : Option Addr) (c : Nat) (L : List En) (hl : L.length ≤ 1000000) (J Jx : List (Nat × En) → World → Prop)
    (hY : ∀ pre x W, J pre W → pre.length < L.length → YieldAt F (n - 1) Try.prog l #[.int .i64 (x.1 : Nat), .agg (enA x.2)] W fun e W' =>
      (e = .returned (.bool true) ∧ J (pre ++ [x]) W' ∧ Below n₀ W W') ∨ (e = .returned (.bool false) ∧ Jx (pre ++ [x]) W'))
    (W : World) (hBn : Bs < n₀) (hBs : W.cell? ⟨Bs, 0, none⟩ = some (.slice a L.length c)) (hE : ∀ W', Below n₀ W W' → EnR W' a L) (h0 : J [] W) :
    CallsIn F n Try.prog 42 #[.func (.yield l) #[] #[], .pointer (some ⟨Bs, 0, none⟩)] W fun e W' => (∃ v, e = .returned v) ∧
      ((∃ ys, ys = rvE L 0 ∧ J ys W') ∨ (∃ pre, (∃ m, m < L.length ∧ pre = rvE L m) ∧ Jx pre W')) := by
  refine callsIn_of_wp Try.func42 rfl h7 ?_ hro
  simp only [Try.ntmps42, List.size_toArray, List.length_cons, List.length_nil, Nat.reduceAdd, Nat.reduceSub, Array.replicate_succ, Array.replicate_zero, List.push_toArray, List.append_toArray, List.nil_append, List.cons_append]
  have hw0 : IntKind.i64.wrap ((L.length : Int) - 1) = (L.length : Int) - 1 := by simp only [IntKind.wrap, IntKind.bits, IntKind.signed]; simp; omega
  gi_wp2
  gi_loopw [3] (fun i wr => ∃ m : Nat, m ≤ L.length ∧ i = .int .i64 ((m : Int) - 1) ∧ J (rvE L m) wr ∧ Below n₀ W wr)
    (fun i _ => (intOf i + 1).toNat)
  case atStart => exact ⟨L.length, Nat.le_refl _, rfl, by rw [rvE_end]; exact h0, Below.refl _ _⟩
  case round =>
    obtain ⟨m, hm, rfl, hJs, hnx⟩ := hrel
    have hbs := (hnx.cell (p := ⟨Bs, 0, none⟩) hBn).trans hBs
    cases m with
    | zero =>
      have hge : ¬ (0 : Int) ≤ ((0 : Nat) : Int) - 1 := by omega
      gi_wp2
      go_end0
      exact ⟨⟨_, rfl⟩, .inl (by first | exact hJs | exact ⟨_, rfl, hJs⟩)⟩
    | succ m =>
      have hge : (0 : Int) ≤ (((m + 1 : Nat) : Int) - 1) := by omega
      have he1 : (((m + 1 : Nat) : Int) - 1) = (m : Int) := by omega
      rw [he1] at hge ⊢
      have hmL : (m : Int) < (L.length : Int) := by omega
      have hwm : IntKind.i64.wrap ((m : Int) - 1) = (m : Int) - 1 := by simp only [IntKind.wrap, IntKind.bits, IntKind.signed]; simp; omega
      have hge2 : L[m]? = some (L.getD m zEn) := by rw [List.getD_eq_getElem?_getD, List.getElem?_eq_getElem (by omega)]; rfl
      obtain ⟨x, hx⟩ : ∃ x, L.getD m zEn = x := ⟨_, rfl⟩
      rw [hx] at hge2
      obtain ⟨b, o, rfl, c0, c1, c2, c3⟩ := hE wr hnx m x hge2
      obtain ⟨fn, tmps, assign, body, hy, hR⟩ := hY _ (m, x) wr hJs (by rw [rvE_len]; omega)
      dsimp only at hy hR
      have hst : rvE L m = rvE L (m + 1) ++ [(m, x)] := by rw [rvE_step L (by omega), hx]
      have hmn : m < L.length := by omega
      clear hge2 hx he1
      gi_wp2
      refine hR.mono ?_
      rintro e W3 (⟨rfl, hJ3, hk3⟩ | ⟨rfl, hJx3⟩)
      · gi_wp2
        go_roundw
        case rel => exact ⟨m, by omega, rfl, by rw [hst]; exact hJ3, hnx.trans hk3⟩
        case measure => simp [intOf]
      · gi_wp2
        refine bodyPost_ret (results_none rfl _ _ _) rfl ?_
        exact ⟨⟨_, rfl⟩, .inr ⟨_, ⟨m, hmn, hst.symm⟩, hJx3⟩⟩
set_option maxHeartbeats 1000000 in
theorem back_in (F : Fence) (n : Nat) (h5 : F.fn 29) (hro : F.round = none) (a : Option Addr) (len cap : Nat) (w : World) :
    CallsIn F n Try.prog 29 #[.slice a len cap] w fun e w' => e = .returned (.func (.func 42) #[] #[.pointer (some ⟨w.heap.size, 0, none⟩)]) ∧ w' = w.alloc (.cells #[.slice a len cap] 22) := by
  refine callsIn_of_wp Try.func29 rfl h5 ?_ hro
  simp only [Try.ntmps29, List.size_toArray, List.length_cons, List.length_nil, Nat.reduceAdd, Nat.reduceSub, Array.replicate_succ, Array.replicate_zero, List.push_toArray, List.append_toArray, List.nil_append, List.cons_append]
  gi_wp2
  go_ret
  exact ⟨rfl, rfl⟩
theorem back_stops (F : Fence) (n : Nat) (h7 : F.fn 42) (hro : F.round = none) (hn : 1 ≤ n) (Bs : Nat) (a : Option Addr) (c : Nat) (L : List En) (hl : L.length ≤ 1000000) (w : World) (hBs : Bs < w.heap.size)
    (hc : w.cell? ⟨Bs, 0, none⟩ = some (.slice a L.length c)) (hE : EnR w a L) :
    SeqStopsK F n Try.prog 42 #[.pointer (some ⟨Bs, 0, none⟩)] (fun x : Nat × En => #[.int .i64 (x.1 : Nat), .agg (enA x.2)]) (Below w.heap.size) (fun ys => ys = rvE L 0) (fun pre => ∃ m, m < L.length ∧ pre = rvE L m) L.length w := fun l J Jx W hW _ _ hY h0 =>
  back1_in F n h7 hro hn l Bs w.heap.size a c L hl J Jx hY W hBs ((hW.cell (p := ⟨Bs, 0, none⟩) hBs).trans hc) (fun W' h' => hE.kept (Chg.ofBelow (hW.trans h'))) h0
set_option maxRecDepth 100000 in
set_option maxHeartbeats 4000000 in
theorem find_any (w : World) (a : Option Addr) (c : Nat) (L : List En) (h : EnR w a L) (hl : L.length ≤ 1000000) (t : Nat) :
    Calls Try.prog 13 #[.slice a L.length c, .int .u64 t] w fun e w' => e = .returned (.int .i64 (findN L t L.length)) ∧ Chg w w' nob := by
  have HA := Lib.hid h
  clear h
  refine (callsIn_wide (n := 6)).1 ?_
  have hro : Fence.wide.round = none := rfl
  refine callsIn_of_wp_marks Try.func13 rfl trivial ?_ hro
  simp only [Try.ntmps13, List.size_toArray, List.length_cons, List.length_nil, Nat.reduceAdd, Nat.reduceSub, Array.replicate_succ, Array.replicate_zero, List.push_toArray, List.append_toArray, List.nil_append, List.cons_append]
  gi_wp2_with (refine ⟨trivial, ?_⟩; gi_at_call 29; refine (back_in Fence.wide 5 trivial hro _ _ _ _).mono ?_; rintro e w' ⟨rfl, rfl⟩)
  have bT := ((Boxed.new w 24 (.int .u64 t)).alloc (.cells #[.int .i64 0] 3)).alloc (.cells #[.slice a L.length c] 22)
  have bR := (Boxed.new (w.alloc (.cells #[.int .u64 t] 24)) 3 (.int .i64 0)).alloc (.cells #[.slice a L.length c] 22)
  have bA := Boxed.new ((w.alloc (.cells #[.int .u64 t] 24)).alloc (.cells #[.int .i64 0] 3)) 22 (.slice a L.length c)
  simp only [World.size_alloc] at bR bA
  have hB0 : Below w.heap.size w (((w.alloc (.cells #[.int .u64 t] 24)).alloc (.cells #[.int .i64 0] 3)).alloc (.cells #[.slice a L.length c] 22)) := (((Below.refl _ w).alloc (Nat.le_refl _) _).alloc (by simp) _).alloc (by simp; omega) _
  have hsz : (((w.alloc (.cells #[.int .u64 t] 24)).alloc (.cells #[.int .i64 0] 3)).alloc (.cells #[.slice a L.length c] 22)).heap.size = w.heap.size + 3 := by simp
  obtain ⟨W0, hW0⟩ : ∃ W0, ((w.alloc (.cells #[.int .u64 t] 24)).alloc (.cells #[.int .i64 0] 3)).alloc (.cells #[.slice a L.length c] 22) = W0 := ⟨_, rfl⟩
  rw [hW0] at bT bR bA hB0 hsz ⊢
  clear hW0
  have hsz1 : w.heap.size + 2 < W0.heap.size := by omega
  clear hsz
  refine wpIn_rangeFunc_ownH hro (by decide) (gf := 42) (lb := #[.pointer (some ⟨w.heap.size + 1 + 1, 0, none⟩)]) rfl trivial (enters_of Try.func42 (by kernel_rfl) rfl)
    (back_stops Fence.wide 5 trivial hro (by omega) (w.heap.size + 1 + 1) a c L hl W0 (by omega) bA.cell (HA.out.kept (Chg.ofBelow hB0))) belowK_t (belowK_b (Nat.le_refl _)) (Below.refl _ _) (fun _ => rfl)
    (fun pre W => (((∀ y ∈ pre, ¬ y.2.t ≤ t) ∧ Boxed W (w.heap.size + 1) 3 (.int .i64 0)) ∧ Boxed W w.heap.size 24 (.int .u64 t)) ∧ Below W0.heap.size W0 W)
    (fun cd pre W => ∃ m : Nat, ((cd = .ret ∧ ∃ pre' x, pre = pre' ++ [(m, x)] ∧ x.t ≤ t ∧ ∀ y ∈ pre', ¬ y.2.t ≤ t) ∧ Boxed W (w.heap.size + 1) 3 (.int .i64 m)) ∧ Below w.heap.size w W)
    (OwnFrom.and (OwnFrom.and (OwnFrom.and (ownFrom_pure _ _) (Own.from (boxed_own _ _ _) _)) (Own.from (boxed_own _ _ _) _)) (ownFrom_below (Nat.le_refl _) (Nat.le_refl _)))
    (fun cd s X Y row hs hg hr => by
      obtain ⟨m, ⟨h1, h2⟩, h3⟩ := hs
      exact ⟨m, ⟨h1, Own.from (boxed_own (β := Unit) _ _ (fun _ => Value.int .i64 m)) W0.heap.size () X Y row h2 hg hr⟩, ownFrom_below (β := Unit) (B := W0.heap.size) (Nat.le_refl _) (by omega) () X Y row h3 hg hr⟩)
    ⟨⟨⟨by simp, bR⟩, bT⟩, Below.refl _ _⟩
    (fun x a' W => ∃ Bx, w.heap.size + 1 < Bx ∧ Blk W Bx 38 (enA x.2) ∧ a' = { tmps := #[.slice a L.length c, .int .u64 t, undef, .pointer (some ⟨w.heap.size, 0, none⟩), .pointer (some ⟨w.heap.size + 1, 0, none⟩), .int .i64 (x.1 : Nat), .pointer (some ⟨Bx, 0, none⟩), .slice a L.length c, .func (.func 42) #[] #[.pointer (some ⟨w.heap.size + 1 + 1, 0, none⟩)], .int .i64 (x.1 : Nat), .agg (enA x.2), undef, undef, undef, undef, undef], defers := [] })
    (fun x a' _ X Y row hs hg hr => by obtain ⟨Bx, e1, e2, e3⟩ := hs; exact ⟨Bx, e1, blk_own Bx 38 (enA x.2) () X Y row e2 hg (fun r e => (hr r e).2), e3⟩)
    ?assign ?body ?done ?stop
  case assign =>
    rintro l pre x W K ⟨⟨⟨hp, bR1⟩, bT1⟩, hB1⟩ hK
    gi_wp2
    exact hK _ _ ((KeepsOthers.alloc _ _).from _) ((Below.refl _ W).alloc hB1.size _) ⟨⟨⟨hp, bR1.alloc _⟩, bT1.alloc _⟩, hB1.alloc hB1.size _⟩ ⟨W.heap.size, bR1.lt, Blk.new W _ _, rfl⟩
  case body =>
    rintro l pre x a' W hl ⟨r, hr⟩ ⟨⟨⟨hp, bR1⟩, bT1⟩, hB1⟩ ⟨Bx, hBx, bX, rfl⟩ hlt
    have cT := bT1.cell
    have cR := bR1.cell
    have fR := bR1.frozen
    have cX := bX.cell 1
    simp only [List.getElem?_toArray, List.getElem?_cons_zero, List.getElem?_cons_succ] at cX
    by_cases hle : x.2.t ≤ t
    · have hli : (x.2.t : Int) ≤ (t : Int) := by omega
      gi_wp2
      exact ⟨(KeepsOthers.setCell _ _ _).from _, x.1, ⟨⟨rfl, pre, x.2, rfl, hle, hp⟩, bR1.set _⟩, (hB0.trans (hB1.mono hB0.size)).setCell (p := ⟨w.heap.size + 1, 0, none⟩) (by simp) _⟩
    · have hli : ¬ (x.2.t : Int) ≤ (t : Int) := by omega
      have HNO : Hid (∀ y ∈ pre ++ [x], ¬ y.2.t ≤ t) := Lib.hid (fun z hz => (List.mem_append.1 hz).elim (hp z) (fun e => by rw [List.mem_singleton] at e; subst e; exact hle))
      gi_wp2
      exact ⟨KeepsFrom.refl _ _, Below.refl _ _, ⟨⟨(by first | exact HNO.out | simpa using HNO.out), bR1⟩, bT1⟩, hB1⟩
  case done =>
    rintro D zs W hD rfl ⟨⟨⟨hp, bR1⟩, bT1⟩, hB1⟩ hK
    have cR := bR1.cell
    have fR := bR1.frozen
    gi_wp2
    have hK' := (KeepsOthers.setCell W ⟨w.heap.size + 1, 0, none⟩ (.int .i64 (-1))).same D _ hK rfl
    refine ⟨by simp, .inl ⟨_, _, rfl, run_takeDeferred hK', ?_⟩⟩
    have hc5 := cell_kept (bR1.set (.int .i64 (-1))).cell (grownBy_putObj' _ D (.deferred none)) (fun r e => by cases e; exact ⟨_, hK', rfl⟩)
    refine ⟨.int .i64 (-1), ?_, by rw [findN_none L t L.length (fun j hj => hp _ (rvE_mem L (Nat.zero_le j) hj))], Chg.ofBelow (((hB0.trans (hB1.mono hB0.size)).setCell (p := ⟨w.heap.size + 1, 0, none⟩) (by simp) _).trans (belowK_b (w := w) (Nat.le_refl _) _ D _ _ (by omega) hK' rfl rfl))⟩
    simp [results, Try.f13, go_sem, hc5]
  case stop =>
    rintro D cd pre W hD hpre ⟨m, ⟨⟨rfl, pre', x, hpx, hx, hno⟩, bR1⟩, hB1⟩ hK
    gi_wp2
    refine ⟨by simp, .inl ⟨_, _, rfl, run_takeDeferred hK, ?_⟩⟩
    have hc5 := cell_kept bR1.cell (grownBy_putObj' _ D (.deferred none)) (fun r e => by cases e; exact ⟨_, hK, rfl⟩)
    obtain ⟨m', hm', hpre2⟩ := hpre
    have hfin : findN L t L.length = (m : Int) := by
      rw [hpre2, rvE_step L hm'] at hpx
      obtain ⟨h1, h2⟩ := List.append_inj' hpx rfl
      simp only [List.cons.injEq, Prod.mk.injEq, and_true] at h2
      obtain ⟨rfl, rfl⟩ := h2
      exact findN_is L t m' L.length hm' hx (fun j h3 h4 => hno _ (by rw [← h1]; exact rvE_mem L (by omega) h4))
    refine ⟨.int .i64 m, ?_, by rw [hfin], Chg.ofBelow (hB1.trans (belowK_b (w := w) (Nat.le_refl _) W D _ _ (by omega) hK rfl rfl))⟩
    simp [results, Try.f13, go_sem, hc5]
end Go.Proofs.Ytmekakecdgblaaa
