/-
  Cells: spans, widths, what may be.
  Cells: may a look, may a cell be; a blank one.
-/
import Derived.Test.YtmbdpcamhkdkmaaGreatDoorK
import Derived.Test.YtmbdpcamhkdkmaaGreatDoorC
import Derived.Deep.DeepCutAuto
import Derived.Handy
namespace Go.Proofs.YtmbdpcamhkdkmaaGreatDoor
open Go.RowKit
set_option linter.unusedVariables false
set_option linter.unusedSimpArgs false

def spansV (l : List (Int × Int)) : List Value := l.flatMap fun p => [.int .i32 p.1, .int .i32 p.2]
theorem spansV_len (l : List (Int × Int)) : (spansV l).length = l.length * 2 := by
  induction l with
  | nil => rfl
  | cons a t ih => simp only [spansV, List.flatMap_cons, List.length_append, List.length_cons, List.length_nil] at *; omega
theorem spansV_at : ∀ (l : List (Int × Int)) (k : Nat) (p : Int × Int), l[k]? = some p → (spansV l)[k * 2]? = some (.int .i32 p.1) ∧ (spansV l)[k * 2 + 1]? = some (.int .i32 p.2)
  | a :: t, 0, p, h => by cases h; exact ⟨rfl, rfl⟩
  | a :: t, k + 1, p, h => by
    have := spansV_at t k p (by simpa using h)
    simpa [spansV, Nat.add_mul] using this
def amongF (r : Int) (l : List (Int × Int)) : Bool := l.any fun p => decide (p.1 ≤ r ∧ r ≤ p.2)
set_option maxRecDepth 100000 in
set_option maxHeartbeats 4000000 in
theorem among_any (w : World) (r : Int) (l : List (Int × Int)) (va : Value) (ha : Rd w 2 va l.length (spansV l)) (hl : l.length ≤ 1000) :
    Calls Tryz.prog 98 #[.int .i32 r, va] w fun e w' => e = .returned (.bool (amongF r l)) ∧ Chg w w' nob := by
  obtain ⟨a1, c1, rfl, hn1, _⟩ := ha.form
  have HC := Lib.hid ha
  clear ha
  go_enter Tryz.func98, Tryz.ntmps98
  go_wp2
  go_loopw [9] (fun iv wr => ∃ k : Nat, k ≤ l.length ∧ iv = .int .i64 k ∧ Chg w wr nob ∧ Hid (amongF r l = amongF r (l.drop k))) (fun iv _ => l.length - (intOf iv).toNat)
  case atStart => exact ⟨0, Nat.zero_le _, rfl, Chg.refl _ _, Lib.hid rfl⟩
  case round =>
    obtain ⟨k, hk, rfl, hch, HA⟩ := hrel
    have HCH := Lib.hid hch
    clear hch
    by_cases hkl : k < l.length
    · have hkn : (k : Int) < (l.length : Int) := by omega
      obtain ⟨⟨f, t⟩, hp⟩ : ∃ p, l[k]? = some p := ⟨l[k], List.getElem?_eq_getElem hkl⟩
      have hrd := HC.out.kept HCH.out (fun _ _ => id)
      obtain ⟨hv0, hv1⟩ := spansV_at l k (f, t) hp
      obtain ⟨g, o, rfl, hc0⟩ := hrd.cell hv0
      obtain ⟨_, _, hge, hc1⟩ := hrd.cell hv1
      cases hge
      have hc1' : wr.cell? ⟨g, o + k * 2 + 1, none⟩ = some (.int .i32 t) := by rw [← hc1]; rfl
      simp only at hc0
      have hd : amongF r (l.drop k) = (decide (f ≤ r ∧ r ≤ t) || amongF r (l.drop (k + 1))) := by
        rw [List.drop_eq_getElem_cons hkl]
        simp only [amongF, List.any_cons]
        rw [show l[k] = (f, t) from Option.some.inj ((List.getElem?_eq_getElem hkl).symm.trans hp)]
      rw [hd] at HA
      clear hd hv0 hv1 hrd hp hc1
      rcases (show r < f ∨ (f ≤ r ∧ t < r) ∨ (f ≤ r ∧ r ≤ t) by omega) with h | ⟨h, h'⟩ | ⟨h, h'⟩
      · rw [show decide (f ≤ r ∧ r ≤ t) = false by simp; omega, Bool.false_or] at HA
        go_wp2
        go_roundw
        case rel => exact ⟨k + 1, by omega, by go_num, HCH.out.alloc _, HA⟩
        case measure => simp [intOf]; omega
      · rw [show decide (f ≤ r ∧ r ≤ t) = false by simp; omega, Bool.false_or] at HA
        go_wp2
        go_roundw
        case rel => exact ⟨k + 1, by omega, by go_num, HCH.out.alloc _, HA⟩
        case measure => simp [intOf]; omega
      · rw [show decide (f ≤ r ∧ r ≤ t) = true by simp; omega, Bool.true_or] at HA
        go_wp2
        go_ret
        exact ⟨by rw [HA.out]; rfl, HCH.out.alloc _⟩
    · obtain rfl : k = l.length := by omega
      rw [List.drop_length] at HA
      go_wp2
      go_ret
      exact ⟨by rw [HA.out]; rfl, HCH.out⟩
def noneL : List (Int × Int) := [(0, 31), (127, 159), (768, 879), (55296, 57343)]
def wideL : List (Int × Int) := [(4352, 4447), (11904, 42191), (44032, 55203), (63744, 64255), (65072, 65135), (65280, 65376), (65504, 65510), (127744, 128591), (129280, 129535), (131072, 262141)]
/-- The two tables of cell stand in the heap. -/
def Tab (w : World) : Prop := Rd w 2 (.slice (some ⟨0, 0, none⟩) 4 4) 4 (spansV noneL) ∧ Rd w 2 (.slice (some ⟨1, 0, none⟩) 10 10) 10 (spansV wideL)
set_option maxRecDepth 100000 in
theorem Tab.kept {w w' : World} (h : Tab w) (hc : Chg w w' nob) : Tab w' := ⟨h.1.kept hc (fun _ _ => id), h.2.kept hc (fun _ _ => id)⟩
def widthF (r : Int) : Int := if r < 0 ∨ 1114111 < r ∨ amongF r noneL = true then 0 else if amongF r wideL = true then 2 else 1
set_option maxRecDepth 100000 in
set_option maxHeartbeats 4000000 in
theorem width_any (w : World) (r : Int) (ht : Tab w) : Calls Tryz.prog 87 #[.int .i32 r] w fun e w' => e = .returned (.int .i64 (widthF r)) ∧ Chg w w' nob := by
  obtain ⟨k1, e1⟩ : ∃ k, amongF r noneL = k := ⟨_, rfl⟩
  obtain ⟨k2, e2⟩ : ∃ k, amongF r wideL = k := ⟨_, rfl⟩
  have hm : widthF r = if r < 0 ∨ 1114111 < r ∨ k1 = true then 0 else if k2 = true then 2 else 1 := by rw [widthF, e1, e2]
  have E1 := Lib.hid e1
  have E2 := Lib.hid e2
  have HT := Lib.hid ht
  clear e1 e2 ht
  rcases (show r < 0 ∨ (0 ≤ r ∧ 1114111 < r) ∨ (0 ≤ r ∧ r ≤ 1114111) by omega) with h | ⟨h, h'⟩ | ⟨h, h'⟩
  · rw [if_pos (.inl h)] at hm
    rw [hm]
    clear hm
    go_enter Tryz.func87, Tryz.ntmps87
    go_wp2
    go_ret
    exact ⟨rfl, Chg.refl _ _⟩
  · rw [if_pos (.inr (.inl h'))] at hm
    rw [hm]
    clear hm
    go_enter Tryz.func87, Tryz.ntmps87
    go_wp2
    go_ret
    exact ⟨rfl, Chg.refl _ _⟩
  · have hm2 : widthF r = if k1 = true then 0 else if k2 = true then 2 else 1 := by
      rw [hm]
      have a : ¬ r < 0 := by omega
      have b : ¬ 1114111 < r := by omega
      simp [a, b]
    rw [hm2]
    clear hm hm2
    go_enter Tryz.func87, Tryz.ntmps87
    go_wp2_with fail
    go_at_call 98
    refine (among_any w r noneL _ HT.out.1 (by decide)).mono ?_
    rw [E1.out]
    rintro e w1 ⟨rfl, hc1⟩
    have H1 := Lib.hid hc1
    clear hc1
    cases k1
    · go_wp2_with fail
      go_at_call 98
      refine (among_any w1 r wideL _ (HT.out.kept H1.out).2 (by decide)).mono ?_
      rw [E2.out]
      rintro e w2 ⟨rfl, hc2⟩
      have H2 := Lib.hid hc2
      clear hc2
      cases k2
      · go_wp2
        go_ret
        exact ⟨rfl, H1.out.trans H2.out (fun _ _ h => h)⟩
      · go_wp2
        go_ret
        exact ⟨rfl, H1.out.trans H2.out (fun _ _ h => h)⟩
    · go_wp2
      go_ret
      exact ⟨rfl, H1.out⟩
end Go.Proofs.YtmbdpcamhkdkmaaGreatDoor

namespace Go.Proofs.YtmbdpcamhkdkmaaGreatDoor
open Go.RowKit
set_option linter.unusedVariables false
set_option linter.unusedSimpArgs false

abbrev lookV (f g b : Int) : Value := .agg #[.int .i64 f, .int .i64 g, .int .i64 b]
def mayC (n : Int) : Bool := decide ((0 ≤ n ∧ n ≤ 256) ∨ (16777216 ≤ n ∧ n < 33554432))
def mayF (f g b : Int) : Bool := decide (0 ≤ f ∧ f ≤ 255) && mayC g && mayC b
set_option maxRecDepth 100000 in
set_option maxHeartbeats 4000000 in
theorem mayc_any (w : World) (n : Int) : Calls Tryz.prog 99 #[.int .i64 n] w fun e w' => e = .returned (.bool (mayC n)) ∧ w' = w := by
  rcases (show n < 0 ∨ (0 ≤ n ∧ n ≤ 256) ∨ (256 < n ∧ n < 16777216) ∨ (16777216 ≤ n ∧ n < 33554432) ∨ 33554432 ≤ n by omega) with h | ⟨h, h'⟩ | ⟨h, h'⟩ | ⟨h, h'⟩ | h
  all_goals
    go_enter Tryz.func99, Tryz.ntmps99
    go_wp2
  all_goals go_ret
  all_goals (refine ⟨?_, rfl⟩; show Ending.returned (Value.bool _) = _; congr 2; rw [Bool.eq_iff_iff]; simp [mayC]; try omega)
set_option maxRecDepth 100000 in
set_option maxHeartbeats 4000000 in
theorem may_any (w : World) (f g b : Int) : Calls Tryz.prog 88 #[lookV f g b] w fun e w' => e = .returned (.bool (mayF f g b)) ∧ Chg w w' nob := by
  obtain ⟨k1, e1⟩ : ∃ k, mayC g = k := ⟨_, rfl⟩
  obtain ⟨k2, e2⟩ : ∃ k, mayC b = k := ⟨_, rfl⟩
  have hm : mayF f g b = (decide (0 ≤ f ∧ f ≤ 255) && k1 && k2) := by unfold mayF; rw [e1, e2]
  rw [hm]
  clear hm
  have E1 := Lib.hid e1
  have E2 := Lib.hid e2
  clear e1 e2
  rcases (show f < 0 ∨ 255 < f ∨ (0 ≤ f ∧ f ≤ 255) by omega) with h | h | ⟨h, h'⟩
  · have hd : Hid (decide (0 ≤ f ∧ f ≤ 255) = false) := Lib.hid (by simp; omega)
    rw [hd.out]
    go_enter Tryz.func88, Tryz.ntmps88
    go_wp2
    go_ret
    exact ⟨rfl, (Chg.refl w nob).alloc _⟩
  · have hd : Hid (decide (0 ≤ f ∧ f ≤ 255) = false) := Lib.hid (by simp; omega)
    have h2 : 0 ≤ f := by omega
    rw [hd.out]
    go_enter Tryz.func88, Tryz.ntmps88
    go_wp2
    go_ret
    exact ⟨rfl, (Chg.refl w nob).alloc _⟩
  · have hd : Hid (decide (0 ≤ f ∧ f ≤ 255) = true) := Lib.hid (by simp; omega)
    rw [hd.out]
    go_enter Tryz.func88, Tryz.ntmps88
    go_wp2_with fail
    go_at_call 99
    refine (mayc_any _ g).mono ?_
    rw [E1.out]
    rintro e w' ⟨rfl, rfl⟩
    cases k1
    · go_wp2
      go_ret
      exact ⟨rfl, (Chg.refl w nob).alloc _⟩
    · go_wp2_with fail
      go_at_call 99
      refine (mayc_any _ b).mono ?_
      rw [E2.out]
      rintro e w' ⟨rfl, rfl⟩
      cases k2
      all_goals
        go_wp2
        go_ret
        exact ⟨rfl, (Chg.refl w nob).alloc _⟩

structure Ce where
  r : Int
  f : Int
  g : Int
  b : Int
  w : Int
deriving DecidableEq
def Ce.cs (c : Ce) : List Value := [.int .i32 c.r, .int .i64 c.f, .int .i64 c.g, .int .i64 c.b, .int .i64 c.w]
def Ce.val (c : Ce) : Value := .agg #[.int .i32 c.r, .int .i64 c.f, .int .i64 c.g, .int .i64 c.b, .int .i64 c.w]
def mayF2 (r w : Int) : Bool := if w = 0 ∨ w = 1 then decide (widthF r = w + 1) else if w = 2 then decide (r = 0) else false
/-- A cell's numbers are such as their types hold. -/
def Ce.wf (c : Ce) : Prop := (Lit.int .i32 c.r).wf = true ∧ (Lit.int .i64 c.f).wf = true ∧ (Lit.int .i64 c.g).wf = true ∧ (Lit.int .i64 c.b).wf = true ∧ (Lit.int .i64 c.w).wf = true
def Ce.may (c : Ce) : Bool := mayF2 c.r c.w && mayF c.f c.g c.b
set_option maxRecDepth 100000 in
set_option maxHeartbeats 4000000 in
theorem maycell_any (w : World) (c : Ce) (ht : Tab w) : Calls Tryz.prog 63 #[c.val] w fun e w' => e = .returned (.bool c.may) ∧ Chg w w' nob := by
  obtain ⟨r, f, g, b, d⟩ := c
  simp only [Ce.val, Ce.may]
  obtain ⟨k2, e2⟩ : ∃ k, mayF f g b = k := ⟨_, rfl⟩
  rw [e2]
  have E2 := Lib.hid e2
  have HT := Lib.hid ht
  clear e2 ht
  rcases (show (d = 0 ∨ d = 1) ∨ d = 2 ∨ (d ≠ 0 ∧ d ≠ 1 ∧ d ≠ 2) by omega) with h | h | ⟨h0, h1, h2⟩
  · have hm : mayF2 r d = decide (widthF r = d + 1) := by rw [mayF2, if_pos h]
    rw [hm]
    clear hm
    obtain ⟨x, e1⟩ : ∃ k, widthF r = k := ⟨_, rfl⟩
    rw [e1]
    have E1 := Lib.hid e1
    clear e1
    obtain ⟨kk, ek⟩ : ∃ kk, decide (x = d + 1) = kk := ⟨_, rfl⟩
    rw [ek]
    have EK := Lib.hid ek
    clear ek
    go_enter Tryz.func63, Tryz.ntmps63
    rcases h with rfl | rfl
    all_goals
      go_wp2_with fail
      refine wp_one [1, 4] [2] [(2, [4])] [0, 1, 3, 4, 5, 2, 6, 7] rfl (by kernel_rfl) (fun _ _ _ _ _ h => h) ?_; simp only [List.map_cons, List.map_nil, List.getElem?_toArray, List.getElem?_cons_zero, List.getElem?_cons_succ]
      (repeat (first | (apply can0; (· rfl); (· rfl); (· (intro w'; first | (go_simp; with_reducible rfl) | (go_simp; done))); simp only [Act.put, List.setIfInBounds_toArray, List.set_cons_zero, List.set_cons_succ]) | (apply can1; (· rfl); (· rfl); (· (first | (go_simp; with_reducible rfl) | (go_simp; done))); simp only [Act.put, List.setIfInBounds_toArray, List.set_cons_zero, List.set_cons_succ]) | (apply canN; (· rfl); (· rfl); simp only [Act.put, List.setIfInBounds_toArray, List.set_cons_zero, List.set_cons_succ]) | (apply canN1; (· rfl); (· rfl); simp only [Act.put, List.setIfInBounds_toArray, List.set_cons_zero, List.set_cons_succ]) | (apply can0; (· rfl); (· (go_simp; done)); (· (intro w'; first | (go_simp; with_reducible rfl) | (go_simp; done))); simp only [Act.put, List.setIfInBounds_toArray, List.set_cons_zero, List.set_cons_succ]) | (apply can1; (· rfl); (· (go_simp; done)); (· (first | (go_simp; with_reducible rfl) | (go_simp; done))); simp only [Act.put, List.setIfInBounds_toArray, List.set_cons_zero, List.set_cons_succ]) | (apply canN; (· rfl); (· (go_simp; done)); simp only [Act.put, List.setIfInBounds_toArray, List.set_cons_zero, List.set_cons_succ]) | (apply canN1; (· rfl); (· (go_simp; done)); simp only [Act.put, List.setIfInBounds_toArray, List.set_cons_zero, List.set_cons_succ])))
      refine canW rfl [4] rfl (fun K hK => ?_)
      go_simp
      go_at_call 87
      refine (width_any _ r (HT.out.kept ((Chg.refl w nob).alloc _).drew)).mono ?_
      rw [E1.out]
      rintro e w1 ⟨rfl, hc1⟩
      have hb := ((Blk.new w 47 _).kept (Chg.refl _ nob).drew id).kept hc1 id
      have H1 := Lib.hid (((Chg.refl w nob).alloc _).drew.trans hc1 (fun _ _ h => h))
      have u0 := hb.cell 0
      have u1 := hb.cell 1
      have u2 := hb.cell 2
      have u3 := hb.cell 3
      have u4 := hb.cell 4
      simp only [List.getElem?_toArray, List.getElem?_cons_zero, List.getElem?_cons_succ] at u0 u1 u2 u3 u4
      clear hc1 hb
      (refine hK _ _ (fun u hu => by (simp only [List.mem_cons, List.not_mem_nil, or_false] at hu); (first | (subst hu; exact reRun_mk rfl (by first | (go_simp; with_reducible rfl) | (go_simp; done)) (holds_at rfl)) | ((repeat' (first | (rcases hu with rfl | hu) | (subst hu))) <;> exact reRun_mk rfl (by first | (go_simp; with_reducible rfl) | (go_simp; done)) (holds_at rfl)))) ?_; clear hK K; try simp only [Act.put, List.setIfInBounds_toArray, List.set_cons_zero, List.set_cons_succ])
      (repeat (first | (apply can0; (· rfl); (· rfl); (· (intro w'; first | (go_simp; with_reducible rfl) | (go_simp; done))); simp only [Act.put, List.setIfInBounds_toArray, List.set_cons_zero, List.set_cons_succ]) | (apply can1; (· rfl); (· rfl); (· (first | (go_simp; with_reducible rfl) | (go_simp; done))); simp only [Act.put, List.setIfInBounds_toArray, List.set_cons_zero, List.set_cons_succ]) | (apply canN; (· rfl); (· rfl); simp only [Act.put, List.setIfInBounds_toArray, List.set_cons_zero, List.set_cons_succ]) | (apply canN1; (· rfl); (· rfl); simp only [Act.put, List.setIfInBounds_toArray, List.set_cons_zero, List.set_cons_succ]) | (apply can0; (· rfl); (· (go_simp; done)); (· (intro w'; first | (go_simp; with_reducible rfl) | (go_simp; done))); simp only [Act.put, List.setIfInBounds_toArray, List.set_cons_zero, List.set_cons_succ]) | (apply can1; (· rfl); (· (go_simp; done)); (· (first | (go_simp; with_reducible rfl) | (go_simp; done))); simp only [Act.put, List.setIfInBounds_toArray, List.set_cons_zero, List.set_cons_succ]) | (apply canN; (· rfl); (· (go_simp; done)); simp only [Act.put, List.setIfInBounds_toArray, List.set_cons_zero, List.set_cons_succ]) | (apply canN1; (· rfl); (· (go_simp; done)); simp only [Act.put, List.setIfInBounds_toArray, List.set_cons_zero, List.set_cons_succ])))
      refine canE ?_
    · have ex : (x == IntKind.i64.wrap 1) = kk := by rw [← EK.out]; rw [Bool.eq_iff_iff]; simp [show IntKind.i64.wrap 1 = 1 from rfl]
      rw [ex]
      clear ex
      cases kk
      · go_wp2
        go_ret
        exact ⟨rfl, H1.out⟩
      · go_wp2_with fail
        go_at_call 88
        refine (may_any _ f g b).mono ?_
        rw [E2.out]
        rintro e w2 ⟨rfl, hc2⟩
        have H2 := Lib.hid hc2
        clear hc2
        cases k2
        all_goals
          go_wp2
          go_ret
          exact ⟨rfl, H1.out.trans H2.out (fun _ _ h => h)⟩
    · have ex : (x == IntKind.i64.wrap 2) = kk := by rw [← EK.out]; rw [Bool.eq_iff_iff]; simp [show IntKind.i64.wrap 2 = 2 from rfl]
      rw [ex]
      clear ex
      cases kk
      · go_wp2
        go_ret
        exact ⟨rfl, H1.out⟩
      · go_wp2_with fail
        go_at_call 88
        refine (may_any _ f g b).mono ?_
        rw [E2.out]
        rintro e w2 ⟨rfl, hc2⟩
        have H2 := Lib.hid hc2
        clear hc2
        cases k2
        all_goals
          go_wp2
          go_ret
          exact ⟨rfl, H1.out.trans H2.out (fun _ _ h => h)⟩
  · subst h
    have hm : mayF2 r 2 = decide (r = 0) := rfl
    rw [hm]
    clear hm
    go_enter Tryz.func63, Tryz.ntmps63
    by_cases hr : r = 0
    · subst hr
      go_wp2_with fail
      go_at_call 88
      refine (may_any _ f g b).mono ?_
      rw [E2.out]
      rintro e w2 ⟨rfl, hc2⟩
      have H2 := Lib.hid hc2
      clear hc2
      cases k2
      all_goals
        go_wp2
        go_ret
        exact ⟨rfl, ((Chg.refl w nob).alloc _).trans H2.out (fun _ _ h => h)⟩
    · rw [show decide (r = 0) = false by simp [hr]]
      go_wp2
      go_ret
      exact ⟨rfl, (Chg.refl _ _).alloc _⟩
  · have hm : mayF2 r d = false := by rw [mayF2, if_neg (by omega), if_neg h2]
    rw [hm]
    clear hm
    go_enter Tryz.func63, Tryz.ntmps63
    go_wp2
    go_ret
    exact ⟨rfl, (Chg.refl _ _).alloc _⟩
set_option maxRecDepth 100000 in
set_option maxHeartbeats 4000000 in
theorem blankc_any (w : World) (f g b : Int) : Calls Tryz.prog 37 #[lookV f g b] w fun e w' => e = .returned (Ce.val ⟨32, 0, 0, b, 0⟩) ∧ Chg w w' nob := by
  go_enter Tryz.func37, Tryz.ntmps37
  go_wp2
  go_returns
  exact ⟨rfl, ((Chg.refl w nob).alloc _).alloc _⟩
end Go.Proofs.YtmbdpcamhkdkmaaGreatDoor
